/- Part 3 of 24 of what the Flows claims share (the white space is struck, the texts are joined). -/
import Derived.Deep.DeepCutAuto
import Derived.Test.YthbmikapohlikaaGreatDoorZ02
set_option linter.unusedVariables false
set_option linter.unusedSimpArgs false
set_option maxRecDepth 100000
set_option maxHeartbeats 8000000
namespace Go.Proofs.YthbmikapohlikaaGreatDoor
def mkQ(neg:Bool)(n d:Nat):Rat:=mkRat (if neg then-(n:Int)else n) d
theorem jzjp(neg:Bool)(n:Nat):(if neg then-(n:Int)else n).natAbs=n:=by cases neg <;> simp
theorem jzjq(neg:Bool){n d:Nat}(hd:d≠0):(mkQ neg n d).num.natAbs=n/n.gcd d:=by
 unfold mkQ;rw [Rat.mkRat_def,dif_neg hd,Rat.normalize_eq];simp only [jzjp];cases neg
 ·simp only [Bool.false_eq_true,if_false];rw [<-Int.natCast_ediv,Int.natAbs_natCast]
 ·simp only [if_true]
  rw [Int.neg_ediv_of_dvd (Int.natCast_dvd_natCast.2 (Nat.gcd_dvd_left n d)), <-Int.natCast_ediv,Int.natAbs_neg,Int.natAbs_natCast]
theorem jzjr(neg:Bool){n d:Nat}(hd:d≠0):(mkQ neg n d).den=d/n.gcd d:=by
 unfold mkQ;rw [Rat.mkRat_def,dif_neg hd,Rat.normalize_eq];simp only [jzjp]
theorem mkQ_neg(neg:Bool){n d:Nat}(hd:d≠0):decide ((mkQ neg n d).num<0)=(neg&&n !=0):=by
 unfold mkQ;rw [Rat.mkRat_def,dif_neg hd,Rat.normalize_eq];simp only [jzjp];have hg:0<n.gcd d:=Nat.gcd_pos_of_pos_right n (by omega);cases neg
 ·simp only [Bool.false_eq_true,if_false,Bool.false_and,decide_eq_false_iff_not];rw [<-Int.natCast_ediv];exact Int.not_lt.2 (Int.natCast_nonneg _)
 ·simp only [if_true,Bool.true_and]
  rw [Int.neg_ediv_of_dvd (Int.natCast_dvd_natCast.2 (Nat.gcd_dvd_left n d)), <-Int.natCast_ediv];by_cases h0:n=0
  ·subst h0;simp
  ·have:0<n/n.gcd d:=Nat.div_pos (Nat.le_of_dvd (by omega) (Nat.gcd_dvd_left n d)) hg
   have h1:(n !=0)=true:=(by simpa using h0);rw [h1];simp;omega
theorem mkQ_self(q:Rat):mkQ (decide (q.num<0)) q.num.natAbs q.den=q:=by
 unfold mkQ;have:(if decide (q.num<0)=true then-(q.num.natAbs:Int)else q.num.natAbs)=q.num:=by
  by_cases h:q.num<0 <;> simp [h] <;> omega
 rw [this,Rat.mkRat_self]
def dk(q:Rat):Nat:=if q.den=1 then 0 else q.den
def dn(d:Nat):Nat:=if d=0 then 1 else d
theorem dn_dk(q:Rat):dn (dk q)=q.den:=by
 unfold dn dk;have:=q.den_nz
 split <;> (try split at*) <;> omega
theorem jzd4(q:Rat):dk q=0↔q.den=1:=by
 unfold dk;have:=q.den_nz
 split <;> omega
open Go.RowKit
def RatR(w:World)(neg:Bool)(A:Option Addr)(n c:Nat)(A':Option Addr)(n' c':Nat)(q:Rat):Prop:=
 neg=decide (q.num<0)/\NatR w A n c q.num.natAbs/\NatR w A' n' c' (dk q)
section
variable {w w':World} {neg:Bool} {A:Option Addr} {n c:Nat} {A':Option Addr} {n' c':Nat} {q:Rat}
theorem RatR.keep(h:RatR w neg A n c A' n' c' q)(hb:Ext w w'):RatR w' neg A n c A' n' c' q:=⟨h.1,h.2.1.keep hb,h.2.2.keep hb⟩
theorem RatR.set_(h:RatR w neg A n c A' n' c' q){p:Addr}{t':TypeId}{cs':Array Value}(hp:Blk w p.block t' cs')(hne:167≠t')(u:Value):RatR (w.setCell p u) neg A n c A' n' c' q:=
 ⟨h.1,h.2.1.set_ hp hne u,h.2.2.set_ hp hne u⟩
end
def RatPost(w:World)(q:Rat)(e:Ending)(w':World):Prop:=
 ∃(neg:Bool) (A:Option Addr) (n c:Nat) (A':Option Addr) (n' c':Nat),e=.returned (.agg #[.bool neg,.slice A n c,.slice A' n' c'])/\RatR w' neg A n c A' n' c' q/\Ext w w'
theorem jzbo{w w1:World}{g N:Nat}{A:Option Addr}{n c:Nat}{z:Value}{t:TypeId}(hb:Blk w1 g t #[z])(ht:167≠t)(hR:NatR w1 A n c N)(hx:Ext w w1)(hg:w.heap.size<=g):
 NatPost w N (.returned (.agg #[.slice A n c])) (w1.setCell ⟨g,0,none⟩ (.slice A n c)):=⟨_,_,_,rfl,hR.set_ hb ht _,hx.set_ hg _⟩
theorem jzfk(A:Option Addr)(n c N:Nat)(w:World)(h:NatR w A n c N):
  Calls Tryz.prog 103 #[.agg #[.slice A n c]] w fun e w'=>e=.returned (.bool (decide (N=1)))/\Ext w w':=by
 have H:=Hx h;clear h;obtain⟨qf,e0⟩:=boxes1 w #[.slice A n c] 33;have qe:(N<18446744073709551616/\((N:Int)==1)=decide (N=1))\/(18446744073709551616<=N/\decide (N=1)=false):=by
  rcases Nat.lt_or_ge N 18446744073709551616 with h|h
  ·refine .inl ⟨h,?_⟩
   by_cases h1:N=1
   ·simp [h1]
   ·rw [yK.2 (by omega)];simp [h1]
  ·exact .inr ⟨h,by simp;omega⟩
 generalize decide (N=1)=b at*;rcases qe with⟨hN,hb⟩|⟨hN,rfl⟩
 ·go_enter Tryz.func103,Tryz.ntmps103
  go_wp2_with fail
  refine(jz0 A n c N _ (H.out.keep e0) hN).mono ?_;rintro e w1 ⟨rfl,qa⟩;have HX:=Hx (e0.tr qa);clear qa e0 qf;go_wp2;go_ret;exact⟨rfl,HX.out⟩
 ·go_enter Tryz.func103,Tryz.ntmps103
  go_wp2_with fail
  refine(jzaj A n c N _ (H.out.keep e0) (by omega)).mono ?_;rintro e w1 ⟨rfl,qa⟩;have HX:=Hx (e0.tr qa);clear qa e0 qf;go_wp2;go_ret;exact⟨rfl,HX.out⟩
theorem jzau(A1 A2:Option Addr)(n1 c1 n2 c2 a d:Nat)(w:World)(h1:NatR w A1 n1 c1 a)(h2:NatR w A2 n2 c2 d)(hn1:n1<=1073741824)(hn2:n2<=1073741824):
  Calls Tryz.prog 57 #[.agg #[.slice A1 n1 c1],.agg #[.slice A2 n2 c2]] w (NatPost w (a*dn d)):=by
 have H1:=Hx h1;have H2:=Hx h2;obtain⟨qf,qg,qa,e0⟩:=boxes3 w #[.slice A1 n1 c1] 33 #[.slice A2 n2 c2] 33 #[.slice none 0 0] 33;by_cases h0:d=0
 ·have zb:((n2:Int)==0)=true:=by have:=h2.eq_zero;simp;omega
  have hv:a*dn d=a:=(by unfold dn;rw [if_pos h0,Nat.mul_one]);rw [hv];clear h1 h2 hv h0
  go_enter Tryz.func57,Tryz.ntmps57
  go_wp2_with fail
  refine(jzi A2 n2 c2 _).mono ?_;rintro e w1 ⟨rfl,qe⟩;have qf:=qf.keep qe;have qa:=qa.keep qe;have ca:=qf.one.1;obtain⟨d2,f2⟩:=qa.one;have HX:=Hx (e0.tr qe);clear qe e0;go_wp2;exact bodyPost_ret (v:=.agg #[.slice A1 n1 c1]) (by simp [results,Tryz.results57,go_sem,(qa.set_ 0 _).cell]) rfl (jzbo qa (by decide) (H1.out.keep HX.out) HX.out (by omega))
 ·have zb:((n2:Int)==0)=false:=by have:=h2.eq_zero;exact yK.2 (by omega)
  have hv:a*dn d=a*d:=(by unfold dn;rw [if_neg h0]);rw [hv];clear h1 h2 hv h0
  go_enter Tryz.func57,Tryz.ntmps57
  go_wp2_with fail
  refine(jzi A2 n2 c2 _).mono ?_;rintro e w1 ⟨rfl,qe⟩;have qf:=qf.keep qe;have qg:=qg.keep qe;have qa:=qa.keep qe;have ca:=qf.one.1;have cb:=qg.one.1;have HX:=Hx (e0.tr qe);clear qe e0
  go_wp2_with fail
  refine(jzfj A1 A2 n1 c1 n2 c2 a d _ (H1.out.keep HX.out) (H2.out.keep HX.out) hn1 hn2).mono ?_;rintro e w2 ⟨A,n,c,rfl,hR,qh⟩;have qa:=qa.keep qh;obtain⟨d2,f2⟩:=qa.one;have qi:=Hx (HX.out.tr qh);have R:=Hx hR;clear qh hR;go_wp2;exact bodyPost_ret (v:=.agg #[.slice A n c]) (by simp [results,Tryz.results57,go_sem,(qa.set_ 0 _).cell]) rfl (jzbo qa (by decide) R.out qi.out (by omega))
theorem jzjs{w:World}{A:Option Addr}{n c N:Nat}(neg:Bool)(h:NatR w A n c N):RatR w (neg&&N !=0) A n c none 0 0 (mkQ neg N 1):=by
 refine⟨(mkQ_neg neg (by omega)).symm,?_,?_⟩
 ·rw [jzjq neg (by omega),Nat.gcd_one_right,Nat.div_one];exact h
 ·have:dk (mkQ neg N 1)=0:=by rw [jzd4,jzjr neg (by omega),Nat.gcd_one_right]
  rw [this];exact NatR.zero _ _ _
theorem jzw{w w1:World}{g:Nat}{q:Rat}{neg:Bool}{A:Option Addr}{n c:Nat}{A':Option Addr}{n' c':Nat}{z:Array Value}{t:TypeId}(hb:Blk w1 g t z)(ht:167≠t)(hR:RatR w1 neg A n c A' n' c' q)(hx:Ext w w1)(hg:w.heap.size<=g):
  RatPost w q (.returned (.agg #[.bool neg,.slice A n c,.slice A' n' c'])) (((w1.setCell ⟨g,0,none⟩ (.bool neg)).setCell ⟨g,1,none⟩ (.slice A n c)).setCell ⟨g,2,none⟩ (.slice A' n' c')):=
 ⟨_,_,_,_,_,_,_,rfl,((hR.set_ hb ht _).set_ (p:=⟨g,1,none⟩) (hb.set_ 0 _) ht _).set_ (p:=⟨g,2,none⟩) ((hb.set_ 0 _).set_ 1 _) ht _,((hx.set_ hg _).set_ (p:=⟨g,1,none⟩) hg _).set_ (p:=⟨g,2,none⟩) hg _⟩
theorem RatPost.drew{w w':World}{q:Rat}{e:Ending}(h:RatPost w q e w'):RatPost w q e w'.drew:=by
 obtain⟨neg,A,n,c,A',n',c',he,hr,hx⟩:=h;exact⟨neg,A,n,c,A',n',c',he,hr.keep ((Ext.refl _).drewN 1),hx.drewN 1⟩
theorem jzbp(neg:Bool)(A:Option Addr)(n c N:Nat)(w:World)(h:NatR w A n c N):
  Calls Tryz.prog 60 #[.bool neg,.agg #[.slice A n c]] w (RatPost w (mkQ neg N 1)):=by
 have H:=Hx h;obtain⟨qa,qe,e0⟩:=boxes2 w #[.slice A n c] 33 #[.bool false,.slice none 0 0,.slice none 0 0] 35;have hw:∀w',Ext w w'->RatR w' (neg&&N !=0) A n c none 0 0 (mkQ neg N 1):=fun w' hx=>jzjs neg (h.keep hx);have hw:=Hx hw;have hz:(!((n:Int)==0))=(N !=0):=by
  have:=h.eq_zero;by_cases h0:N=0
  ·have:n=0:=by omega
   subst this;subst h0;rfl
  ·have:n≠0:=by omega
   rw [yK.2 (by omega),bne_iff_ne.2 h0];rfl
 generalize hnz:(N !=0)=nz at*;clear h hnz;cases neg
 ·go_enter Tryz.func60,Tryz.ntmps60
  go_wp2
  go_region
  go_wp2;exact bodyPost_ret (v:=.agg #[.bool false,.slice A n c,.slice none 0 0]) (by simp [results,Tryz.results60,go_sem]) rfl ⟨_,_,_,_,_,_,_,rfl,hw.out _ ((((Ext.refl w).alloc _).alloc _).drewN 1),(((Ext.refl w).alloc _).alloc _).drewN 1⟩
 ·have qa:=qa
  have qa:Blk ((w.alloc (.cells #[.slice A n c] 33)).alloc (.cells #[.bool false,.slice none 0 0,.slice none 0 0] 35)).drew _ _ _:=qa;have qe:Blk ((w.alloc (.cells #[.slice A n c] 33)).alloc (.cells #[.bool false,.slice none 0 0,.slice none 0 0] 35)).drew _ _ _:=qe;have e0:Ext w ((w.alloc (.cells #[.slice A n c] 33)).alloc (.cells #[.bool false,.slice none 0 0,.slice none 0 0] 35)).drew:=e0.drewN 1;have ca:=qa.one.1
  go_enter Tryz.func60,Tryz.ntmps60
  go_wp2
  go_region_held3 (fun w'=>w'.cell? ⟨w.heap.size,0,none⟩=some (.slice A n c)) (first|exact ca|go_keep)
   (first|(go_at_call 59;refine(jzi _ _ _ _).mono ?_;rintro e w1 ⟨rfl,qf⟩;have qa:=qa.keep qf;have qe:=qe.keep qf;have qg:=Hx (e0.tr qf);obtain⟨ca,_⟩:=qa.one;obtain⟨⟨c0,c1,c2⟩,f0,f1,f2⟩:=qe.three;clear qf))
  go_wp2;exact bodyPost_ret (v:=.agg #[.bool nz,.slice A n c,.slice none 0 0]) (by simp [results,Tryz.results60,go_sem,(((qe.set_ 0 _).set_ 1 _).set_ 2 _).cell]) rfl (jzw qe (by decide) (hw.out _ qg.out) qg.out (by omega))
theorem mkQ_zero(neg:Bool)(d:Nat):mkQ neg 0 d=mkQ neg 0 1:=by
 unfold mkQ;have:(if neg=true then-((0:Nat):Int)else((0:Nat):Int))=0:=(by cases neg <;> rfl);rw [this];simp
theorem mkQ_div(neg:Bool){n d g:Nat}(hd:d≠0)(hg:g=n.gcd d):mkQ neg n d=mkQ neg (n/g) (d/g):=by
 subst hg;have hg:0<n.gcd d:=Nat.gcd_pos_of_pos_right n (by omega);have qa:d/n.gcd d≠0:=by
  have:=Nat.div_pos (Nat.le_of_dvd (by omega) (Nat.gcd_dvd_right n d)) hg;omega
 unfold mkQ;rw [Rat.mkRat_eq_iff hd qa];have e1:n=n/n.gcd d*n.gcd d:=(Nat.div_mul_cancel (Nat.gcd_dvd_left n d)).symm;have e2:d=d/n.gcd d*n.gcd d:=(Nat.div_mul_cancel (Nat.gcd_dvd_right n d)).symm;have e:(n:Int)*((d/n.gcd d:Nat):Int)=((n/n.gcd d:Nat):Int)*(d:Int):=by
  rw [<-Int.natCast_mul, <-Int.natCast_mul]
  congr 1
  generalize hG:n.gcd d=G at*;generalize n/G=x at*;generalize d/G=y at*;rw [e1,e2];simp only [vE,Nat.mul_left_comm]
 cases neg
 ·simpa using e
 ·simp only [if_true,Int.neg_mul];rw [e]
theorem jzjt{w:World}{neg:Bool}{A:Option Addr}{n c:Nat}{A':Option Addr}{n' c' N D:Nat}(h:NatR w A n c N)(h':NatR w A' n' c' D)(hN:N≠0)(hD:D≠0)(hD1:D≠1)(hg:N.gcd D=1):
  RatR w neg A n c A' n' c' (mkQ neg N D):=by
 refine⟨?_,?_,?_⟩
 ·rw [mkQ_neg neg hD,bne_iff_ne.2 hN,Bool.and_true]
 ·rw [jzjq neg hD,hg,Nat.div_one];exact h
 ·have:dk (mkQ neg N D)=D:=by unfold dk;rw [jzjr neg hD,hg,Nat.div_one,if_neg hD1]
  rw [this];exact h'
theorem jzfl(neg:Bool)(A1 A2:Option Addr)(n1 c1 n2 c2 N D:Nat)(w:World)(h1:NatR w A1 n1 c1 N)(h2:NatR w A2 n2 c2 D)(h:N=0\/D=1):
  Calls Tryz.prog 61 #[.bool neg,.agg #[.slice A1 n1 c1],.agg #[.slice A2 n2 c2]] w (RatPost w (mkQ neg N D)):=by
 have H1:=Hx h1;have H2:=Hx h2;have hq:mkQ neg N D=mkQ neg N 1:=by
  rcases h with h|h
  ·rw [h,mkQ_zero]
  ·rw [h]
 rw [hq];obtain⟨qf,qj,qa,e0⟩:=boxes3 w #[.slice A1 n1 c1] 33 #[.slice A2 n2 c2] 33 #[.bool false,.slice none 0 0,.slice none 0 0] 35;by_cases h0:N=0
 ·have zb:((n1:Int)==0)=true:=by have:=h1.eq_zero;simp;omega
  clear h1 h2 h hq h0
  go_enter Tryz.func61,Tryz.ntmps61
  go_wp2_with fail
  refine(jzi A1 n1 c1 _).mono ?_;rintro e w1 ⟨rfl,qe⟩;have qf:=qf.keep qe;have qa:=qa.keep qe;have ca:=qf.one.1;have HX:=Hx (e0.tr qe);clear qe e0
  go_wp2_with fail
  refine(jzbp neg A1 n1 c1 N _ (H1.out.keep HX.out)).mono ?_;rintro e w2 ⟨ng,A,n,c,A',n',c',rfl,hR,qg⟩;have qa:=qa.keep qg;obtain⟨⟨k0,k1,k2⟩,f0,f1,f2⟩:=qa.three;have qi:=Hx (HX.out.tr qg);have R:=Hx hR;clear qg hR;go_wp2;exact bodyPost_ret (v:=.agg #[.bool ng,.slice A n c,.slice A' n' c']) (by simp [results,Tryz.results61,go_sem,(((qa.set_ 0 _).set_ 1 _).set_ 2 _).cell]) rfl (jzw qa (by decide) R.out qi.out (by omega))
 ·have zb:((n1:Int)==0)=false:=by have:=h1.eq_zero;exact yK.2 (by omega)
  have qk:decide (D=1)=true:=(by simp;omega);have HD:=Hx qk;clear h1 h2 h hq h0 qk
  go_enter Tryz.func61,Tryz.ntmps61
  go_wp2_with fail
  refine(jzi A1 n1 c1 _).mono ?_;rintro e w1 ⟨rfl,qe⟩;have qf:=qf.keep qe;have qj:=qj.keep qe;have qa:=qa.keep qe;have cb:=qj.one.1;have HX:=Hx (e0.tr qe);clear qe e0
  go_wp2_with fail
  refine(jzfk A2 n2 c2 D _ (H2.out.keep HX.out)).mono ?_;rintro e w3 ⟨rfl,qh⟩;rw [HD.out];have qf:=qf.keep qh;have qa:=qa.keep qh;have ca:=qf.one.1;have HX:=Hx (HX.out.tr qh);clear qh
  go_wp2_with fail
  refine(jzbp neg A1 n1 c1 N _ (H1.out.keep HX.out)).mono ?_;rintro e w2 ⟨ng,A,n,c,A',n',c',rfl,hR,qg⟩;have qa:=qa.keep qg;obtain⟨⟨k0,k1,k2⟩,f0,f1,f2⟩:=qa.three;have qi:=Hx (HX.out.tr qg);have R:=Hx hR;clear qg hR;go_wp2;exact bodyPost_ret (v:=.agg #[.bool ng,.slice A n c,.slice A' n' c']) (by simp [results,Tryz.results61,go_sem,(((qa.set_ 0 _).set_ 1 _).set_ 2 _).cell]) rfl (jzw qa (by decide) R.out qi.out (by omega))
theorem jzge(neg:Bool)(A1 A2:Option Addr)(n1 c1 n2 c2 N D:Nat)(w:World)(h1:NatR w A1 n1 c1 N)(h2:NatR w A2 n2 c2 D)(hn1:n1<=1073741824)(hn2:n2<=1073741824)(hN:N≠0)(hD:D≠0)(hD1:D≠1)
  (hdm:18446744073709551616<=N\/18446744073709551616<=D->∀x y,0<y->DivModAt x y):
  Calls Tryz.prog 61 #[.bool neg,.agg #[.slice A1 n1 c1],.agg #[.slice A2 n2 c2]] w (RatPost w (mkQ neg N D)):=by
 have H1:=Hx h1;have H2:=Hx h2;have qL:=Hx hdm;have qm:0<N.gcd D:=Nat.gcd_pos_of_pos_left D (by omega);have qD:N.gcd D<=N:=Nat.le_of_dvd (by omega) (Nat.gcd_dvd_left N D);have qM:DivModAt N (N.gcd D):=by
  rcases Nat.lt_or_ge N 18446744073709551616 with h|h
  ·exact jza6 qm h
  ·exact hdm (.inl h) _ _ qm
 have qN:DivModAt D (N.gcd D):=by
  rcases Nat.lt_or_ge D 18446744073709551616 with h|h
  ·exact jza6 qm h
  ·exact hdm (.inr h) _ _ qm
 have qP:=Hx qM;have qQ:=Hx qN;obtain⟨qf,qe,qa,e0⟩:=boxes3 w #[.slice A1 n1 c1] 33 #[.slice A2 n2 c2] 33 #[.bool false,.slice none 0 0,.slice none 0 0] 35;have zb:((n1:Int)==0)=false:=(by have:=h1.eq_zero;exact yK.2 (by omega));have qi:decide (D=1)=false:=(by simp;omega);have qH:=Hx qi;have hq:=Hx (mkQ_div neg (n:=N) (g:=N.gcd D) hD rfl);clear h1 h2 qi qM qN hdm
 go_enter Tryz.func61,Tryz.ntmps61
 go_wp2_with fail
 refine(jzi A1 n1 c1 _).mono ?_;rintro e w1 ⟨rfl,qC⟩;have qf:=qf.keep qC;have qe:=qe.keep qC;have qa:=qa.keep qC;have cb:=qe.one.1;have HX:=Hx (e0.tr qC);clear qC e0
 go_wp2_with fail
 refine(jzfk A2 n2 c2 D _ (H2.out.keep HX.out)).mono ?_;rintro e w3 ⟨rfl,qA⟩;rw [qH.out];have qf:=qf.keep qA;have qe:=qe.keep qA;have qa:=qa.keep qA;have ca:=qf.one.1;have cb:=qe.one.1;have HX:=Hx (HX.out.tr qA);clear qA
 go_wp2_with fail
 refine(gcd_any A1 A2 n1 c1 n2 c2 N D _ (H1.out.keep HX.out) (H2.out.keep HX.out) hn1 hn2 qL.out).mono ?_;rintro e w4 ⟨A3,n3,c3,rfl,hG,qt⟩;have z4:w.heap.size+1+1<w4.heap.size:=(qa.keep qt).lt;have qf:=(qf.keep qt).alloc (.cells #[.slice A3 n3 c3] 33);have qe:=(qe.keep qt).alloc (.cells #[.slice A3 n3 c3] 33);have qa:=(qa.keep qt).alloc (.cells #[.slice A3 n3 c3] 33);have qp:=Blk.new w4 33 #[.slice A3 n3 c3];have qJ:=Hx ((HX.out.tr qt).alloc (.cells #[.slice A3 n3 c3] 33));have G4:=Hx (hG.keep ((Ext.refl w4).alloc (.cells #[.slice A3 n3 c3] 33)));have qT:n3<=n1:=hG.len_le H1.out qD;clear qt hG qL
 go_wp2_with fail
 refine(jzfk A3 n3 c3 (N.gcd D) _ G4.out).mono ?_;rintro e w5 ⟨rfl,qo⟩;have qf:=qf.keep qo;have qe:=qe.keep qo;have qa:=qa.keep qo;have qp:=qp.keep qo;have ca:=qf.one.1;have cb:=qe.one.1;have cg:=qp.one.1;have qx:=Hx (qJ.out.tr qo);have G5:=Hx (G4.out.keep qo);clear qo G4 qJ HX;by_cases qB:N.gcd D=1
 ·have qz:decide (N.gcd D=1)=true:=by simpa using qB
  rw [qz];have qS:=Hx qB;clear qz qB
  go_wp2_with fail
  refine(jzfk A2 n2 c2 D _ (H2.out.keep qx.out)).mono ?_;rintro e w6 ⟨rfl,qg⟩;rw [qH.out];have qf:=qf.keep qg;have qe:=qe.keep qg;have qa:=qa.keep qg;have ca:=qf.one.1;have cb:=qe.one.1;obtain⟨⟨k0,k1,k2⟩,f0,f1,f2⟩:=qa.three;have qk:=Hx (qx.out.tr qg);clear qg;go_wp2;exact bodyPost_ret (v:=.agg #[.bool neg,.slice A1 n1 c1,.slice A2 n2 c2]) (by simp [results,Tryz.results61,go_sem,(((qa.set_ 0 _).set_ 1 _).set_ 2 _).cell]) rfl
   (jzw qa (by decide) (jzjt (H1.out.keep qk.out) (H2.out.keep qk.out) hN hD hD1 qS.out) qk.out (by omega))
 ·have qz:decide (N.gcd D=1)=false:=by simpa using qB
  rw [qz];clear qz qB
  go_wp2_with fail
  refine(qP.out A1 A3 n1 c1 n3 c3 _ (H1.out.keep qx.out) G5.out hn1 (by omega)).mono ?_;rintro e w6 ⟨B1,k1,d1,_,_,_,rfl,hQ,_,qg⟩;have qj:=qf.keep qg;have qe:=(qe.keep qg).far (p:=⟨w.heap.size,0,none⟩) (by first|(simp;omega)|simp) (.slice B1 k1 d1);have qa:=(qa.keep qg).far (p:=⟨w.heap.size,0,none⟩) (by first|(simp;omega)|simp) (.slice B1 k1 d1);have qp:=(qp.keep qg).far (p:=⟨w.heap.size,0,none⟩) (by first|(simp;omega)|simp) (.slice B1 k1 d1);have qf:=qj.set_ 0 (.slice B1 k1 d1);simp only [yD,yE]at qf;obtain⟨a6,g6⟩:=qj.one;have cb:=qe.one.1;have cg:=qp.one.1;have qk:=Hx ((qx.out.tr qg).set_ (p:=⟨w.heap.size,0,none⟩) (by simp) (.slice B1 k1 d1));have G6:=Hx ((G5.out.keep qg).set_ (p:=⟨w.heap.size,0,none⟩) qj (by decide) (.slice B1 k1 d1));have Q6:=Hx (hQ.set_ (p:=⟨w.heap.size,0,none⟩) qj (by decide) (.slice B1 k1 d1));clear qg hQ G5 qx
  go_wp2_with fail
  refine(qQ.out A2 A3 n2 c2 n3 c3 _ (H2.out.keep qk.out) G6.out hn2 (by omega)).mono ?_;rintro e w7 ⟨B3,k3,d3,_,_,_,rfl,hS,_,qw⟩;have qh:=qe.keep qw;have qf:=(qf.keep qw).far (p:=⟨w.heap.size+1,0,none⟩) (by first|(simp;omega)|simp) (.slice B3 k3 d3);have qa:=(qa.keep qw).far (p:=⟨w.heap.size+1,0,none⟩) (by first|(simp;omega)|simp) (.slice B3 k3 d3);have qe:=qh.set_ 0 (.slice B3 k3 d3);simp only [yD,yE]at qe;obtain⟨a7,g7⟩:=qh.one;have ca:=qf.one.1;have cb:=qe.one.1;have qI:=Hx ((qk.out.tr qw).set_ (p:=⟨w.heap.size+1,0,none⟩) (by simp) (.slice B3 k3 d3));have Q7:=Hx ((Q6.out.keep qw).set_ (p:=⟨w.heap.size+1,0,none⟩) qh (by decide) (.slice B3 k3 d3));have S7:=Hx (hS.set_ (p:=⟨w.heap.size+1,0,none⟩) qh (by decide) (.slice B3 k3 d3));clear qw hS G6 qk Q6
  go_wp2_with fail
  refine(jzfk B3 k3 d3 (D/N.gcd D) _ S7.out).mono ?_;rintro e w8 ⟨rfl,qn⟩;have qf:=qf.keep qn;have qe:=qe.keep qn;have qa:=qa.keep qn;have ca:=qf.one.1;have cb:=qe.one.1;have qF:=Hx (qI.out.tr qn);have Q8:=Hx (Q7.out.keep qn);have S8:=Hx (S7.out.keep qn);clear qn Q7 S7 qI;by_cases qi:D/N.gcd D=1
  ·have qy:decide (D/N.gcd D=1)=true:=by simpa using qi
   rw [qy];have HQ:=Hx (qi▸hq.out);clear qy qi
   go_wp2_with fail
   refine(jzbp neg B1 k1 d1 (N/N.gcd D) _ Q8.out).mono ?_;rintro e w9 ⟨ng,A,n,c,A',n',c',rfl,hR,qE⟩;have qa:=qa.keep qE;obtain⟨⟨k0,qR,k2⟩,f0,f1,f2⟩:=qa.three;have qO:=Hx (qF.out.tr qE);have R:=Hx hR;clear qE hR;go_wp2;exact bodyPost_ret (v:=.agg #[.bool ng,.slice A n c,.slice A' n' c']) (by simp [results,Tryz.results61,go_sem,(((qa.set_ 0 _).set_ 1 _).set_ 2 _).cell]) rfl (by rw [HQ.out];exact jzw qa (by decide) R.out qO.out (by omega))
  ·have qy:decide (D/N.gcd D=1)=false:=by simpa using qi
   rw [qy];obtain⟨⟨k0,qR,k2⟩,f0,f1,f2⟩:=qa.three;have qG:N/N.gcd D≠0:=(by have:=Nat.div_pos qD qm;omega);have qK:D/N.gcd D≠0:=(by have:=Nat.div_pos (Nat.le_of_dvd (by omega) (Nat.gcd_dvd_right N D)) qm;omega);have HF:=Hx (jzjt (neg:=neg) Q8.out S8.out qG qK qi (by rw [Nat.gcd_div (Nat.gcd_dvd_left N D) (Nat.gcd_dvd_right N D),Nat.div_self qm]));clear qy qi qG qK;go_wp2;exact bodyPost_ret (v:=.agg #[.bool neg,.slice B1 k1 d1,.slice B3 k3 d3]) (by simp [results,Tryz.results61,go_sem,(((qa.set_ 0 _).set_ 1 _).set_ 2 _).cell]) rfl
    (by rw [hq.out];exact jzw qa (by decide) HF.out qF.out (by omega))
def ReducedAt(N D:Nat):Prop:=∀(neg:Bool) (A1 A2:Option Addr) (n1 c1 n2 c2:Nat) (w:World),NatR w A1 n1 c1 N->NatR w A2 n2 c2 D->n1<=1073741824->n2<=1073741824->
 Calls Tryz.prog 61 #[.bool neg,.agg #[.slice A1 n1 c1],.agg #[.slice A2 n2 c2]] w (RatPost w (mkQ neg N D))
theorem jzc9{N D:Nat}(hD:D≠0)(hdm:18446744073709551616<=N\/18446744073709551616<=D->∀x y,0<y->DivModAt x y):ReducedAt N D:=fun neg A1 A2 n1 c1 n2 c2 w h1 h2 hn1 hn2=>by
 by_cases h:N=0\/D=1
 ·exact jzfl neg A1 A2 n1 c1 n2 c2 N D w h1 h2 h
 ·exact jzge neg A1 A2 n1 c1 n2 c2 N D w h1 h2 hn1 hn2 (by omega) hD (by omega) hdm
theorem wrap_neg(x:Int)(h0: -9223372036854775808<=x)(hx:x<0):IntKind.u64.wrap (-IntKind.u64.wrap x)= -x:=by
 rw [IntKind.wrap_u64,IntKind.wrap_u64];omega
theorem jzbf(x:Int)(w:World)(h0: -9223372036854775808<=x)(h1:x<=9223372036854775807):
  Calls Tryz.prog 63 #[.int .i64 x] w fun e w'=>∃(A:Option Addr) (n c:Nat),e=.returned (.tuple #[.agg #[.slice A n c],.bool (decide (x<0))])/\NatR w' A n c x.natAbs/\Ext w w':=by
 obtain⟨qa,e0⟩:=boxes1 w #[.slice none 0 0] 33;by_cases hx:x<0
 ·have hd:decide (x<0)=true:=by simpa using hx
  rw [hd];clear hd
  go_enter Tryz.func63,Tryz.ntmps63
  go_wp2_with fail
  rw [wrap_neg x h0 hx];refine(jza5 (-x) _ (by omega) (by omega)).mono ?_;rintro e w2 ⟨A5,n5,c5,rfl,hR,qe⟩;have hR:NatR w2 A5 n5 c5 x.natAbs:=(by rw [show x.natAbs=(-x).toNat by omega];exact hR);have qa:=qa.keep qe;obtain⟨c2,f2⟩:=qa.one;have qf:=Hx (e0.tr qe);have R:=Hx (hR);clear qe hR e0;go_wp2;exact bodyPost_ret (v:=.tuple #[.agg #[.slice A5 n5 c5],.bool true]) (by simp [results,Tryz.results63,go_sem,(qa.set_ 0 _).cell]) rfl (⟨_,_,_,rfl,R.out.set_ qa (by decide) _,qf.out.set_ (by simp) _⟩)
 ·have hd:decide (x<0)=false:=by simpa using hx
  rw [hd];clear hd
  go_enter Tryz.func63,Tryz.ntmps63
  go_wp2_with fail
  refine(jza5 x _ (by omega) (by omega)).mono ?_;rintro e w2 ⟨A5,n5,c5,rfl,hR,qe⟩;have hR:NatR w2 A5 n5 c5 x.natAbs:=(by rw [show x.natAbs=x.toNat by omega];exact hR);have qa:=qa.keep qe;obtain⟨c2,f2⟩:=qa.one;have qf:=Hx (e0.tr qe);have R:=Hx (hR);clear qe hR e0;go_wp2;exact bodyPost_ret (v:=.tuple #[.agg #[.slice A5 n5 c5],.bool false]) (by simp [results,Tryz.results63,go_sem,(qa.set_ 0 _).cell]) rfl (⟨_,_,_,rfl,R.out.set_ qa (by decide) _,qf.out.set_ (by simp) _⟩)
theorem den_any(neg:Bool)(A:Option Addr)(n c:Nat)(A':Option Addr)(n' c':Nat)(q:Rat)(w:World)(h:RatR w neg A n c A' n' c' q):
  Calls Tryz.prog 62 #[.agg #[.bool neg,.slice A n c,.slice A' n' c']] w (NatPost w q.den):=by
 obtain⟨qf,qa,e0⟩:=boxes2 w #[.bool neg,.slice A n c,.slice A' n' c'] 35 #[.slice none 0 0] 33;have H:=Hx (h.2.2);by_cases hd:q.den=1
 ·have zb:((n':Int)==0)=true:=by have:=h.2.2.eq_zero;rw [jzd4]at this;simp;omega
  rw [hd];clear h hd
  go_enter Tryz.func62,Tryz.ntmps62
  go_wp2_with fail
  refine(jzi A' n' c' _).mono ?_;rintro e w1 ⟨rfl,qe⟩;have qa:=qa.keep qe;have HX:=Hx (e0.tr qe);clear qe e0
  go_wp2_with fail
  refine(jza5 1 _ (by omega) (by omega)).mono ?_;rintro e w2 ⟨A5,n5,c5,rfl,hR,qg⟩;have qa:=qa.keep qg;obtain⟨c2,f2⟩:=qa.one;have qi:=Hx (HX.out.tr qg);have R:=Hx (hR);clear qg hR;go_wp2;exact bodyPost_ret (v:=.agg #[.slice A5 n5 c5]) (by simp [results,Tryz.results62,go_sem,(qa.set_ 0 _).cell]) rfl (jzbo qa (by decide) R.out qi.out (by omega))
 ·have zb:((n':Int)==0)=false:=by have:=h.2.2.eq_zero;rw [jzd4]at this;exact yK.2 (by omega)
  have qh:dk q=q.den:=(by unfold dk;rw [if_neg hd]);rw [qh]at H;clear h hd qh
  go_enter Tryz.func62,Tryz.ntmps62
  go_wp2_with fail
  refine(jzi A' n' c' _).mono ?_;rintro e w1 ⟨rfl,qe⟩;have qf:=qf.keep qe;have qa:=qa.keep qe;obtain⟨⟨k0,k1,k2⟩,g0,g1,g2⟩:=qf.three;obtain⟨c2,f2⟩:=qa.one;have HX:=Hx (e0.tr qe);clear qe e0;go_wp2;exact bodyPost_ret (v:=.agg #[.slice A' n' c']) (by simp [results,Tryz.results62,go_sem,(qa.set_ 0 _).cell]) rfl (jzbo qa (by decide) (H.out.keep HX.out) HX.out (by omega))
def sgnI(q:Rat):Int:=if q.num=0 then 0 else if q.num<0 then-1 else 1
theorem jzz(neg:Bool)(A:Option Addr)(n c:Nat)(A':Option Addr)(n' c':Nat)(q:Rat)(w:World)(h:RatR w neg A n c A' n' c' q):
  Calls Tryz.prog 23 #[.agg #[.bool neg,.slice A n c,.slice A' n' c']] w fun e w'=>e=.returned (.int .i64 (sgnI q))/\Ext w w':=by
 obtain⟨qf,e0⟩:=boxes1 w #[.bool neg,.slice A n c,.slice A' n' c'] 35;have qa:(((n:Int)==0)=true/\sgnI q=0)\/(((n:Int)==0)=false/\neg=true/\sgnI q= -1)\/(((n:Int)==0)=false/\neg=false/\sgnI q=1):=by
  have h1:=h.2.1.eq_zero;have h2:=h.1;unfold sgnI;by_cases h0:q.num=0
  ·exact .inl ⟨by simp;omega,by rw [if_pos h0]⟩
  ·have:((n:Int)==0)=false:=yK.2 (by omega)
   by_cases hn:q.num<0
   ·exact .inr (.inl ⟨this,by rw [h2];simpa using hn,by rw [if_neg h0,if_pos hn]⟩)
   ·exact .inr (.inr ⟨this,by rw [h2];simpa using hn,by rw [if_neg h0,if_neg hn]⟩)
 clear h;generalize sgnI q=s at*;rcases qa with⟨zb,rfl⟩|⟨zb,rfl,rfl⟩|⟨zb,rfl,rfl⟩
 all_goals
  go_enter Tryz.func23,Tryz.ntmps23
  go_wp2_with fail
  refine(jzi A n c _).mono ?_;rintro e w1 ⟨rfl,qe⟩;have qf:=qf.keep qe;obtain⟨⟨k0,k1,k2⟩,g0,g1,g2⟩:=qf.three;have HX:=Hx (e0.tr qe);clear qe e0;go_wp2;go_ret;exact⟨rfl,HX.out⟩
theorem jzda{w:World}{A:Option Addr}{n c N:Nat}(h:NatR w A n c N)(hN:N<18446744073709551616):n<=2:=by
 obtain⟨ds,rfl,_,hc,rfl,_⟩:=h;exact hc.len_le jzeh (by rw [B32_sq];exact hN)
theorem jzb6(x:Int)(w:World)(h0: -9223372036854775808<=x)(h1:x<=9223372036854775807):
  Calls Tryz.prog 22 #[.int .i64 x] w (RatPost w (mkQ (decide (x<0)) x.natAbs 1)):=by
 obtain⟨qa,e0⟩:=boxes1 w #[.bool false,.slice none 0 0,.slice none 0 0] 35
 go_enter Tryz.func22,Tryz.ntmps22
 go_wp2_with fail
 refine(jzbf x _ h0 h1).mono ?_;rintro e w1 ⟨A1,n1,c1,rfl,hN,qf⟩;have qa:=(qa.keep qf).alloc (.cells #[.slice A1 n1 c1] 33);have qi:=Blk.new w1 33 #[.slice A1 n1 c1];have qh:=Hx ((e0.tr qf).alloc (.cells #[.slice A1 n1 c1] 33));have N1:=Hx (hN.keep ((Ext.refl w1).alloc (.cells #[.slice A1 n1 c1] 33)));clear qf hN e0;generalize hs:(decide (x<0))=s1 at*;clear hs
 go_wp2_with fail
 refine(jzbp s1 A1 n1 c1 x.natAbs _ N1.out).mono ?_;rintro e w3 ⟨ng,A,n,c,A',n',c',rfl,hR,qe⟩;have qa:=qa.keep qe;obtain⟨⟨k0,k1,k2⟩,g0,g1,g2⟩:=qa.three;have qg:=Hx (qh.out.tr qe);have R:=Hx (hR);clear qe hR;go_wp2;exact bodyPost_ret (v:=.agg #[.bool ng,.slice A n c,.slice A' n' c']) (by simp [results,Tryz.results22,go_sem,(((qa.set_ 0 _).set_ 1 _).set_ 2 _).cell]) rfl (jzw qa (by decide) R.out qg.out (yX _))
def sval(neg:Bool)(n:Nat):Int:=if neg then-(n:Int)else n
def sgB(m:Bool)(a:Nat)(o:Bool)(b:Nat):Bool:=if m=o then m else if b<=a then m else o
def sgV(m:Bool)(a:Nat)(o:Bool)(b:Nat):Nat:=if m=o then a+b else if b<=a then a-b else b-a
theorem sg_sum(m:Bool)(a:Nat)(o:Bool)(b:Nat):sval (sgB m a o b) (sgV m a o b)=sval m a+sval o b:=by
 unfold sval sgB sgV;cases m <;> cases o <;> by_cases h:b<=a <;> simp [h] <;> omega
theorem jzju(m o:Bool)(A1 A2:Option Addr)(n1 c1 n2 c2 a b:Nat)(w:World)(h1:NatR w A1 n1 c1 a)(h2:NatR w A2 n2 c2 b)(hn1:n1<=1073741824)(hn2:n2<=1073741824):
  Calls Tryz.prog 114 #[.bool m,.agg #[.slice A1 n1 c1],.bool o,.agg #[.slice A2 n2 c2]] w fun e w'=>∃(A:Option Addr) (n c:Nat),e=.returned (.tuple #[.bool (sgB m a o b),.agg #[.slice A n c]])/\NatR w' A n c (sgV m a o b)/\Ext w w':=by
 obtain⟨qj,qi,qa,e0⟩:=boxes3 w #[.slice A1 n1 c1] 33 #[.slice A2 n2 c2] 33 #[.slice none 0 0] 33;have H1:=Hx (h1);have H2:=Hx (h2);clear h1 h2;by_cases hm:m=o
 ·have hB:sgB m a o b=m:=by unfold sgB;rw [if_pos hm]
  have hV:sgV m a o b=a+b:=(by unfold sgV;rw [if_pos hm]);rw [hB,hV];subst hm;clear hB hV
  go_enter Tryz.func114,Tryz.ntmps114
  go_wp2_with fail
  refine(jzjm A1 A2 n1 c1 n2 c2 a b _ (H1.out.keep e0) (H2.out.keep e0) hn1 hn2).mono ?_;rintro e w1 ⟨A,n,c,rfl,hR,qe⟩;have qa:=qa.keep qe;obtain⟨k,f⟩:=qa.one;have HX:=Hx (e0.tr qe);have R:=Hx (hR);clear qe hR e0;go_wp2;exact bodyPost_ret (v:=.tuple #[.bool m,.agg #[.slice A n c]]) (by simp [results,Tryz.results114,go_sem,(qa.set_ 0 _).cell]) rfl (⟨_,_,_,rfl,R.out.set_ qa (by decide) _,HX.out.set_ (by first|(simp;omega)|simp) _⟩)
 ·have qn:(m==o)=false:=by simpa using hm
  by_cases qh:b<=a
  ·have hB:sgB m a o b=m:=by unfold sgB;rw [if_neg hm,if_pos qh]
   have hV:sgV m a o b=a-b:=(by unfold sgV;rw [if_neg hm,if_pos qh]);rw [hB,hV];have hq:0<=cmpI a b:=(by unfold cmpI;rw [if_neg (by omega)];split <;> omega);clear hB hV hm
   go_enter Tryz.func114,Tryz.ntmps114
   go_wp2_with fail
   refine(jzan A1 A2 n1 c1 n2 c2 a b _ (H1.out.keep e0) (H2.out.keep e0) (by omega)).mono ?_;rintro e w1 ⟨rfl,qe⟩;have qj:=qj.keep qe;have qi:=qi.keep qe;have qa:=qa.keep qe;have ca:=qj.one.1;have cb:=qi.one.1;have HX:=Hx (e0.tr qe);clear qe e0;generalize cmpI a b=q at*
   go_wp2_with fail
   refine(jzfi A1 A2 n1 c1 n2 c2 a b _ (H1.out.keep HX.out) (H2.out.keep HX.out) hn1 qh).mono ?_;rintro e w2 ⟨A,n,c,rfl,hR,qg⟩;have qa:=qa.keep qg;have zr:=qa.lt;have qf:=qa.alloc (.cells #[.slice A n c] 33);obtain⟨k,f⟩:=qf.one;have qk:=Hx (HX.out.tr qg);have R:=Hx (hR);clear qg hR;go_wp2
   go_region
   go_wp2;exact bodyPost_ret (v:=.tuple #[.bool m,.agg #[.slice A n c]]) (by simp [results,Tryz.results114,go_sem,((qa.set_ 0 (.slice A n c)).alloc _).cell]) rfl (⟨_,_,_,rfl,((R.out.set_ (p:=⟨w.heap.size+1+1,0,none⟩) qa (by decide) _).keep ((Ext.refl _).alloc _)).keep ((Ext.refl _).drewN 1),((qk.out.set_ (p:=⟨w.heap.size+1+1,0,none⟩) (by first|(simp;omega)|simp) _).alloc _).drewN 1⟩)
  ·have hB:sgB m a o b=o:=by unfold sgB;rw [if_neg hm,if_neg qh]
   have hV:sgV m a o b=b-a:=(by unfold sgV;rw [if_neg hm,if_neg qh]);rw [hB,hV];have hq:cmpI a b<0:=(by unfold cmpI;rw [if_pos (by omega)];omega);have qm:a<=b:=(by omega);clear hB hV hm qh
   go_enter Tryz.func114,Tryz.ntmps114
   go_wp2_with fail
   refine(jzan A1 A2 n1 c1 n2 c2 a b _ (H1.out.keep e0) (H2.out.keep e0) (by omega)).mono ?_;rintro e w1 ⟨rfl,qe⟩;have qj:=qj.keep qe;have qi:=qi.keep qe;have qa:=qa.keep qe;have ca:=qj.one.1;have cb:=qi.one.1;have HX:=Hx (e0.tr qe);clear qe e0;generalize cmpI a b=q at*
   go_wp2_with fail
   refine(jzfi A2 A1 n2 c2 n1 c1 b a _ (H2.out.keep HX.out) (H1.out.keep HX.out) hn2 qm).mono ?_;rintro e w2 ⟨A,n,c,rfl,hR,qg⟩;have qa:=qa.keep qg;have zr:=qa.lt;have qf:=qa.alloc (.cells #[.slice A n c] 33);obtain⟨k,f⟩:=qf.one;have qk:=Hx (HX.out.tr qg);have R:=Hx (hR);clear qg hR;go_wp2
   go_region
   go_wp2;exact bodyPost_ret (v:=.tuple #[.bool o,.agg #[.slice A n c]]) (by simp [results,Tryz.results114,go_sem,((qa.set_ 0 (.slice A n c)).alloc _).cell]) rfl (⟨_,_,_,rfl,((R.out.set_ (p:=⟨w.heap.size+1+1,0,none⟩) qa (by decide) _).keep ((Ext.refl _).alloc _)).keep ((Ext.refl _).drewN 1),((qk.out.set_ (p:=⟨w.heap.size+1+1,0,none⟩) (by first|(simp;omega)|simp) _).alloc _).drewN 1⟩)
def cmpQ(a b:Rat):Int:=if a<b then-1 else if a=b then 0 else 1
theorem jzjv(a b:Rat):cmpQ a b=if a.num*b.den<b.num*a.den then-1 else if a.num*b.den=b.num*a.den then 0 else 1:=by
 unfold cmpQ;have e:a=b↔a.num*b.den=b.num*a.den:=by
  constructor
  ·rintro rfl;rfl
  ·intro h
   have h1:=(Rat.mkRat_eq_iff a.den_nz b.den_nz).2 h
   rwa [Rat.mkRat_self,Rat.mkRat_self]at h1
 by_cases h1:a<b
 ·rw [if_pos h1,if_pos ((Rat.lt_iff a b).1 h1)]
 ·rw [if_neg h1,if_neg (fun h=>h1 ((Rat.lt_iff a b).2 h))]
  by_cases h2:a=b
  ·rw [if_pos h2,if_pos (e.1 h2)]
  ·rw [if_neg h2,if_neg (fun h=>h2 (e.2 h))]
theorem cmpQ_sign(a b:Rat)(h:sgnI a≠sgnI b):cmpQ a b=if sgnI a<sgnI b then-1 else 1:=by
 rw [jzjv];have ha:(0:Int)<a.den:=(by have:=a.den_nz;omega);have hb:(0:Int)<b.den:=(by have:=b.den_nz;omega);unfold sgnI at*;rcases Int.lt_trichotomy a.num 0 with h1|h1|h1 <;> rcases Int.lt_trichotomy b.num 0 with h2|h2|h2
 ·simp [Int.ne_of_lt h1,Int.ne_of_lt h2,h1,h2]at h
 ·rw [if_pos (by rw [h2,Int.zero_mul];exact Int.mul_neg_of_neg_of_pos h1 hb)];simp [Int.ne_of_lt h1,h1,h2]
 ·rw [if_pos (Int.lt_trans (Int.mul_neg_of_neg_of_pos h1 hb) (Int.mul_pos h2 ha))];simp [Int.ne_of_lt h1,h1,Int.ne_of_gt h2,Int.not_lt.2 (Int.le_of_lt h2)]
 ·have:=Int.mul_neg_of_neg_of_pos h2 ha
  rw [h1,Int.zero_mul,if_neg (by omega),if_neg (by omega)];simp [Int.ne_of_lt h2,h2]
 ·simp [h1,h2]at h
 ·have:=Int.mul_pos h2 ha
  rw [h1,Int.zero_mul,if_pos this];simp [Int.ne_of_gt h2,Int.not_lt.2 (Int.le_of_lt h2)]
 ·have:=Int.mul_neg_of_neg_of_pos h2 ha
  have h3:=Int.mul_pos h1 hb;rw [if_neg (by omega),if_neg (by omega)];simp [Int.ne_of_gt h1,Int.not_lt.2 (Int.le_of_lt h1),Int.ne_of_lt h2,h2]
 ·have h3:=Int.mul_pos h1 hb
  rw [h2,Int.zero_mul,if_neg (by omega),if_neg (by omega)];simp [Int.ne_of_gt h1,Int.not_lt.2 (Int.le_of_lt h1)]
 ·simp [Int.ne_of_gt h1,Int.ne_of_gt h2,Int.not_lt.2 (Int.le_of_lt h1),Int.not_lt.2 (Int.le_of_lt h2)]at h
theorem cmpQ_same(a b:Rat)(h:sgnI a=sgnI b)(h0:sgnI a≠0):cmpQ a b=sgnI a*cmpI (a.num.natAbs*b.den) (b.num.natAbs*a.den):=by
 rw [jzjv];unfold sgnI at*;unfold cmpI;have hz:a.num≠0:=fun e=>h0 (by rw [if_pos e]);have qa:b.num≠0:=fun e=>h0 (by rw [h,if_pos e]);rw [if_neg hz]at*;rw [if_neg qa]at h;have ea:((a.num.natAbs*b.den:Nat):Int)=(a.num.natAbs:Int)*b.den:=(by push_cast;rfl);have eb:((b.num.natAbs*a.den:Nat):Int)=(b.num.natAbs:Int)*a.den:=(by push_cast;rfl);by_cases hn:a.num<0
 ·rw [if_pos hn]at*
  have qe:b.num<0:=by
   by_cases hb:b.num<0
   ·exact hb
   ·rw [if_neg hb]at h;omega
  have e1:(a.num.natAbs:Int)= -a.num:=(by omega);have e2:(b.num.natAbs:Int)= -b.num:=(by omega);rw [e1,Int.neg_mul]at ea;rw [e2,Int.neg_mul]at eb;generalize a.num*(b.den:Int)=X at*;generalize b.num*(a.den:Int)=Y at*;generalize a.num.natAbs*b.den=x at*;generalize b.num.natAbs*a.den=y at*;rcases Nat.lt_trichotomy x y with h|h|h
  ·rw [if_neg (by omega),if_neg (by omega),if_pos h];rfl
  ·rw [if_neg (by omega),if_pos (by omega),if_neg (by omega),if_pos h];rfl
  ·rw [if_pos (by omega),if_neg (by omega),if_neg (by omega)];rfl
 ·rw [if_neg hn]at*
  have qe:¬b.num<0:=by
   intro hb;rw [if_pos hb]at h;omega
  have e1:(a.num.natAbs:Int)=a.num:=(by omega);have e2:(b.num.natAbs:Int)=b.num:=(by omega);rw [e1]at ea;rw [e2]at eb;generalize a.num*(b.den:Int)=X at*;generalize b.num*(a.den:Int)=Y at*;generalize a.num.natAbs*b.den=x at*;generalize b.num.natAbs*a.den=y at*;rcases Nat.lt_trichotomy x y with h|h|h
  ·rw [if_pos (by omega),if_pos h];rfl
  ·rw [if_neg (by omega),if_pos (by omega),if_neg (by omega),if_pos h];rfl
  ·rw [if_neg (by omega),if_neg (by omega),if_neg (by omega),if_neg (by omega)];rfl
theorem cmpQ_zero(a b:Rat)(h:sgnI a=sgnI b)(h0:sgnI a=0):cmpQ a b=0:=by
 have e:∀q:Rat,sgnI q=0->q.num=0:=fun q hq=>by
  unfold sgnI at hq;by_cases hz:q.num=0
  ·exact hz
  ·rw [if_neg hz]at hq;split at hq <;> omega
 rw [jzjv,e a h0,e b (h▸h0)];simp
theorem jzfm{w w':World}{A A1 A2:Option Addr}{n c n1 c1 n2 c2 a b:Nat}(h:NatR w A n c (a*b))(h1:NatR w' A1 n1 c1 a)(h2:NatR w' A2 n2 c2 b):n<=n1+n2:=by
 obtain⟨ds,rfl,_,hc,hv,_⟩:=h;obtain⟨xs,rfl,_,hx,rfl,_⟩:=h1;obtain⟨ys,rfl,_,hy,rfl,_⟩:=h2;refine hc.len_le jzeh ?_;rw [hv,Nat.pow_add];exact Nat.mul_lt_mul'' (Dig.val_lt jzm hx.lt) (Dig.val_lt jzm hy.lt)
theorem jzal{w w':World}{A A1 A2:Option Addr}{n c n1 c1 n2 c2 a d:Nat}(h:NatR w A n c (a*dn d))(h1:NatR w' A1 n1 c1 a)(h2:NatR w' A2 n2 c2 d):n<=n1+n2:=by
 by_cases hd:d=0
 ·have e:a*dn d=a:=by unfold dn;rw [if_pos hd,Nat.mul_one]
  rw [e]at h;have:=h.len_le h1 (yX _);omega
 ·have e:a*dn d=a*d:=by unfold dn;rw [if_neg hd]
  rw [e]at h;exact jzfm h h1 h2
theorem jz4(na nb:Bool)(A1:Option Addr)(n1 c1:Nat)(A1':Option Addr)(n1' c1':Nat)(A2:Option Addr)(n2 c2:Nat)(A2':Option Addr)(n2' c2':Nat)(a b:Rat)(w:World)
  (ha:RatR w na A1 n1 c1 A1' n1' c1' a) (hb:RatR w nb A2 n2 c2 A2' n2' c2' b) (l1:n1<=268435456) (l1':n1'<=268435456) (l2:n2<=268435456) (l2':n2'<=268435456):
  Calls Tryz.prog 20 #[.agg #[.bool na,.slice A1 n1 c1,.slice A1' n1' c1'],.agg #[.bool nb,.slice A2 n2 c2,.slice A2' n2' c2']] w fun e w'=>e=.returned (.int .i64 (cmpQ a b))/\Ext w w':=by
 obtain⟨qe,qa,e0⟩:=boxes2 w #[.bool na,.slice A1 n1 c1,.slice A1' n1' c1'] 35 #[.bool nb,.slice A2 n2 c2,.slice A2' n2' c2'] 35;have HA:=Hx (ha);have HB:=Hx (hb);clear ha hb;have qe:Blk ((w.alloc (.cells #[.bool na,.slice A1 n1 c1,.slice A1' n1' c1'] 35)).alloc (.cells #[.bool nb,.slice A2 n2 c2,.slice A2' n2' c2'] 35)).drew _ _ _:=qe;have qa:Blk ((w.alloc (.cells #[.bool na,.slice A1 n1 c1,.slice A1' n1' c1'] 35)).alloc (.cells #[.bool nb,.slice A2 n2 c2,.slice A2' n2' c2'] 35)).drew _ _ _:=qa;have E0:=Hx (e0.drewN 1);clear e0;obtain⟨⟨k0,k1,k2⟩,f0,f1,f2⟩:=qe.three;obtain⟨⟨j0,j1,j2⟩,g0,g1,g2⟩:=qa.three;clear f0 f1 f2 g0 g1 g2
 have qh:(((sgnI a !=sgnI b)=true/\decide (sgnI a<sgnI b)=true/\cmpQ a b= -1)\/((sgnI a !=sgnI b)=true/\decide (sgnI a<sgnI b)=false/\cmpQ a b=1))\/
   ((sgnI a !=sgnI b)=false/\(sgnI a==0)=true/\cmpQ a b=0)\/
   ((sgnI a !=sgnI b)=false/\(sgnI a==0)=false/\cmpQ a b=sgnI a*cmpI (a.num.natAbs*b.den) (b.num.natAbs*a.den)/\(sgnI a=1\/sgnI a= -1)):=by
  by_cases h:sgnI a=sgnI b
  ·right
   by_cases h0:sgnI a=0
   ·exact .inl ⟨by simpa using h,by simpa using h0,cmpQ_zero a b h h0⟩
   ·refine .inr ⟨by simpa using h,by simpa using h0,cmpQ_same a b h h0,?_⟩
    clear h;unfold sgnI at*;by_cases hz:a.num=0
    ·rw [if_pos hz]at h0;exact absurd rfl h0
    ·rw [if_neg hz]
     by_cases hn:a.num<0
     ·rw [if_pos hn];exact .inr rfl
     ·rw [if_neg hn];exact .inl rfl
  ·left
   have e:=cmpQ_sign a b h;by_cases hl:sgnI a<sgnI b
   ·exact .inl ⟨by simpa using h,by simpa using hl,by rw [e,if_pos hl]⟩
   ·exact .inr ⟨by simpa using h,by simpa using hl,by rw [e,if_neg hl]⟩
 have qf:True:=trivial
 go_enter Tryz.func20,Tryz.ntmps20
 go_wp2
 go_region_held3 (fun w'=>w'.cell? ⟨w.heap.size,0,none⟩=some (.bool na)/\w'.cell? ⟨w.heap.size,1,none⟩=some (.slice A1 n1 c1)/\w'.cell? ⟨w.heap.size,2,none⟩=some (.slice A1' n1' c1')/\
   w'.cell? ⟨w.heap.size+1,0,none⟩=some (.bool nb)/\w'.cell? ⟨w.heap.size+1,1,none⟩=some (.slice A2 n2 c2)/\w'.cell? ⟨w.heap.size+1,2,none⟩=some (.slice A2' n2' c2')) (exact⟨k0,k1,k2,j0,j1,j2⟩)
  (first
   |(go_at_call 23;have _t:=qf;refine(jzz na A1 n1 c1 A1' n1' c1' a _ (HA.out.keep E0.out)).mono ?_;rintro e w1 ⟨rfl,qk⟩;clear qf;have qe:=qe.keep qk;have qa:=qa.keep qk;have E1:=Hx (E0.out.tr qk);obtain⟨⟨k0,k1,k2⟩,_⟩:=qe.three;obtain⟨⟨j0,j1,j2⟩,_⟩:=qa.three;clear qk)
   |(go_at_call 23;refine(jzz nb A2 n2 c2 A2' n2' c2' b _ (HB.out.keep E1.out)).mono ?_;rintro e w2 ⟨rfl,qm⟩;have qe:=qe.keep qm;have qa:=qa.keep qm;have E2:=Hx (E1.out.tr qm);obtain⟨⟨k0,k1,k2⟩,_⟩:=qe.three;obtain⟨⟨j0,j1,j2⟩,_⟩:=qa.three;clear qm))
 generalize hS:sgnI a=s at*;generalize hT:sgnI b=t at*;clear hS hT;rcases qh with(⟨h1,h2,h3⟩|⟨h1,h2,h3⟩)|⟨h1,h2,h3⟩|⟨h1,h2,h3,h4⟩
 ·have H3:=Hx h3
  clear h3;go_wp2;go_ret;rw [H3.out];exact⟨rfl,E2.out⟩
 ·have H3:=Hx h3
  clear h3;go_wp2;go_ret;rw [H3.out];exact⟨rfl,E2.out⟩
 ·have H3:=Hx h3
  clear h3;go_wp2;go_ret;rw [H3.out];exact⟨rfl,E2.out⟩
 ·have H3:=Hx h3
  clear h3;have hr:=jzjl (a.num.natAbs*b.den) (b.num.natAbs*a.den);have qt:IntKind.i64.wrap (s*cmpI (a.num.natAbs*b.den) (b.num.natAbs*a.den))=s*cmpI (a.num.natAbs*b.den) (b.num.natAbs*a.den):=by
   generalize cmpI (a.num.natAbs*b.den) (b.num.natAbs*a.den)=q at*;apply IntWalk.i64_in;rcases h4 with h|h <;> subst h <;> omega
  have qe:Blk w2.drew _ _ _:=qe;have qa:Blk w2.drew _ _ _:=qa;have E2:=Hx (E2.out.drewN 1);clear h4;go_wp2;have qf:True:=trivial
  go_region_held3 (fun w'=>w'.cell? ⟨w.heap.size,1,none⟩=some (.slice A1 n1 c1)/\w'.cell? ⟨w.heap.size,2,none⟩=some (.slice A1' n1' c1')/\
    w'.cell? ⟨w.heap.size+1,1,none⟩=some (.slice A2 n2 c2)/\w'.cell? ⟨w.heap.size+1,2,none⟩=some (.slice A2' n2' c2')) (exact⟨k1,k2,j1,j2⟩)
   (first
    |(go_at_call 57;have _t:=qf;refine(jzau A1 A2' n1 c1 n2' c2' a.num.natAbs (dk b) _ (HA.out.2.1.keep E2.out) (HB.out.2.2.keep E2.out) (by omega) (by omega)).mono ?_;rintro e w3 ⟨A3,n3,c3,rfl,qn,qi⟩;clear qf;have qe:=qe.keep qi;have qa:=qa.keep qi;have E3:=Hx (E2.out.tr qi);obtain⟨⟨k0,k1,k2⟩,_⟩:=qe.three;obtain⟨⟨j0,j1,j2⟩,_⟩:=qa.three;have R3:=Hx qn;clear qi qn)
    |(go_at_call 57;refine(jzau A2 A1' n2 c2 n1' c1' b.num.natAbs (dk a) _ (HB.out.2.1.keep E3.out) (HA.out.2.2.keep E3.out) (by omega) (by omega)).mono ?_;rintro e w4 ⟨A4,n4,c4,rfl,qp,qg⟩;have qe:=qe.keep qg;have qa:=qa.keep qg;have E4:=Hx (E3.out.tr qg);obtain⟨⟨k0,k1,k2⟩,_⟩:=qe.three;obtain⟨⟨j0,j1,j2⟩,_⟩:=qa.three;have R4:=Hx qp;have qo:=Hx (R3.out.keep qg);clear qg qp)
    |(go_at_call 56;refine(jzan A3 A4 n3 c3 n4 c4 (a.num.natAbs*b.den) (b.num.natAbs*a.den) _ (by have:=qo.out;rw [dn_dk]at this;exact this) (by have:=R4.out;rw [dn_dk]at this;exact this) (by have:=jzal qo.out HA.out.2.1 HB.out.2.2;omega)).mono ?_;rintro e w5 ⟨rfl,qj⟩;have qe:=qe.keep qj;have qa:=qa.keep qj;have E5:=Hx (E4.out.tr qj);obtain⟨⟨k0,k1,k2⟩,_⟩:=qe.three;obtain⟨⟨j0,j1,j2⟩,_⟩:=qa.three;clear qj))
  go_wp2;go_ret;rw [H3.out];exact⟨rfl,E5.out⟩
theorem jzam{q:Rat}:sgnI q=0↔q=0:=by
 unfold sgnI;constructor
 ·intro h
  by_cases hz:q.num=0
  ·exact Rat.num_eq_zero.1 hz
  ·rw [if_neg hz]at h;split at h <;> omega
 ·rintro rfl;rfl
def crossN(a b:Rat):Nat:=(a.num*b.den+b.num*a.den).natAbs
theorem jzjw{neg:Bool}{q:Rat}(h:neg=decide (q.num<0))(d:Nat):sval neg (q.num.natAbs*d)=q.num*d:=by
 subst h;unfold sval;by_cases hn:q.num<0
 ·simp only [hn,decide_true,if_true];push_cast;rw [show((q.num.natAbs:Nat):Int)= -q.num by omega,Int.neg_mul,Int.neg_neg]
 ·simp only [hn,decide_false,Bool.false_eq_true,if_false];push_cast;rw [show((q.num.natAbs:Nat):Int)=q.num by omega]
theorem add_mkQ{na nb:Bool}{a b:Rat}(ha:na=decide (a.num<0))(hb:nb=decide (b.num<0)):
  a+b=mkQ (sgB na (a.num.natAbs*b.den) nb (b.num.natAbs*a.den)) (sgV na (a.num.natAbs*b.den) nb (b.num.natAbs*a.den)) (a.den*b.den)/\
  sgV na (a.num.natAbs*b.den) nb (b.num.natAbs*a.den)=crossN a b:=by
 have h:=sg_sum na (a.num.natAbs*b.den) nb (b.num.natAbs*a.den);rw [jzjw ha,jzjw hb]at h;constructor
 ·rw [Rat.add_def', <-h];rfl
 ·unfold crossN;rw [<-h];unfold sval;split <;> omega
theorem den_len{w w':World}{A A':Option Addr}{n c n' c':Nat}{q:Rat}(h:NatR w A n c q.den)(h':NatR w' A' n' c' (dk q)):n<=n'+2:=by
 by_cases hd:q.den=1
 ·rw [hd]at h
  have:=jzda h (by omega);omega
 ·have e:dk q=q.den:=by unfold dk;rw [if_neg hd]
  rw [e]at h';have:=h.len_le h' (yX _);omega
theorem cross_len{w w':World}{A A1 A2:Option Addr}{n c n1 c1 n2 c2:Nat}{m o:Bool}{a b:Nat}(h:NatR w A n c (sgV m a o b))(h1:NatR w' A1 n1 c1 a)(h2:NatR w' A2 n2 c2 b):n<=n1+n2+1:=by
 have qa:sgV m a o b<=a+b:=(by unfold sgV;split <;> (try split) <;> omega);obtain⟨ds,rfl,_,hc,hv,_⟩:=h;obtain⟨xs,rfl,_,hx,rfl,_⟩:=h1;obtain⟨ys,rfl,_,hy,rfl,_⟩:=h2;refine hc.len_le jzeh ?_;rw [hv];have p1:=Dig.val_lt jzm hx.lt;have p2:=Dig.val_lt jzm hy.lt;have p3:B32^xs.length<=B32^(xs.length+ys.length):=Nat.pow_le_pow_right jzm (by omega);have p4:B32^ys.length<=B32^(xs.length+ys.length):=Nat.pow_le_pow_right jzm (by omega);have p5:B32^(xs.length+ys.length+1)=B32^(xs.length+ys.length)*4294967296:=(by rw [vD,jzo]);have p6:0<B32^(xs.length+ys.length):=Nat.pow_pos jzm;omega
theorem jz7(na nb:Bool)(A1:Option Addr)(n1 c1:Nat)(A1':Option Addr)(n1' c1':Nat)(A2:Option Addr)(n2 c2:Nat)(A2':Option Addr)(n2' c2':Nat)(a b:Rat)(w:World)
  (ha:RatR w na A1 n1 c1 A1' n1' c1' a) (hb:RatR w nb A2 n2 c2 A2' n2' c2' b) (l1:n1<=134217728) (l1':n1'<=134217728) (l2:n2<=134217728) (l2':n2'<=134217728) (hred:ReducedAt (crossN a b) (a.den*b.den)):
  Calls Tryz.prog 67 #[.agg #[.bool na,.slice A1 n1 c1,.slice A1' n1' c1'],.agg #[.bool nb,.slice A2 n2 c2,.slice A2' n2' c2']] w (RatPost w (a+b)):=by
 obtain⟨qe,qa,qf,e0⟩:=boxes3 w #[.bool na,.slice A1 n1 c1,.slice A1' n1' c1'] 35 #[.bool nb,.slice A2 n2 c2,.slice A2' n2' c2'] 35 #[.bool false,.slice none 0 0,.slice none 0 0] 35;have hq:=add_mkQ ha.1 hb.1;have HA:=Hx (ha);have HB:=Hx (hb);have qY:=Hx (hred);clear hred;by_cases h0:a=0
 ·have hs:sgnI a=0:=jzam.2 h0
  have qE:a+b=b:=(by rw [h0,Rat.zero_add]);rw [qE];have HS:=Hx (hs);clear ha hb hq h0 qE hs
  go_enter Tryz.func67,Tryz.ntmps67
  go_wp2_with fail
  refine(jzz na A1 n1 c1 A1' n1' c1' a _ (HA.out.keep e0)).mono ?_;rintro e w1 ⟨rfl,qh⟩;rw [HS.out];have qa:=qa.keep qh;have qf:=qf.keep qh;obtain⟨⟨j0,j1,j2⟩,g0,g1,g2⟩:=qa.three;obtain⟨⟨k0,k1,k2⟩,f0,f1,f2⟩:=qf.three;have E1:=Hx (e0.tr qh);clear qh e0;go_wp2;exact bodyPost_ret (v:=.agg #[.bool nb,.slice A2 n2 c2,.slice A2' n2' c2']) (by simp [results,Tryz.results67,go_sem,(((qf.set_ 0 _).set_ 1 _).set_ 2 _).cell]) rfl (jzw qf (by decide) (HB.out.keep E1.out) E1.out (by omega))
 have hs:(sgnI a==0)=false:=yK.2 (fun h=>h0 (jzam.1 h));by_cases qB:b=0
 ·have qF:sgnI b=0:=jzam.2 qB
  have qE:a+b=a:=(by rw [qB,Rat.add_zero]);rw [qE];have HS:=Hx (qF);clear ha hb hq h0 qE qF qB
  go_enter Tryz.func67,Tryz.ntmps67
  go_wp2_with fail
  refine(jzz na A1 n1 c1 A1' n1' c1' a _ (HA.out.keep e0)).mono ?_;rintro e w1 ⟨rfl,qh⟩;have qe:=qe.keep qh;have qa:=qa.keep qh;have qf:=qf.keep qh;obtain⟨⟨i0,i1,i2⟩,h0,h1,h2⟩:=qe.three;obtain⟨⟨j0,j1,j2⟩,g0,g1,g2⟩:=qa.three;have E1:=Hx (e0.tr qh);clear qh e0;generalize sgnI a=s at*
  go_wp2_with fail
  refine(jzz nb A2 n2 c2 A2' n2' c2' b _ (HB.out.keep E1.out)).mono ?_;rintro e w2 ⟨rfl,qx⟩;rw [HS.out];have qe:=qe.keep qx;have qf:=qf.keep qx;obtain⟨⟨i0,i1,i2⟩,h0,h1,h2⟩:=qe.three;obtain⟨⟨k0,k1,k2⟩,f0,f1,f2⟩:=qf.three;have E2:=Hx (E1.out.tr qx);clear qx;go_wp2;exact bodyPost_ret (v:=.agg #[.bool na,.slice A1 n1 c1,.slice A1' n1' c1']) (by simp [results,Tryz.results67,go_sem,(((qf.set_ 0 _).set_ 1 _).set_ 2 _).cell]) rfl (jzw qf (by decide) (HA.out.keep E2.out) E2.out (by omega))
 have qF:(sgnI b==0)=false:=yK.2 (fun h=>qB (jzam.1 h));have HQ:=Hx (hq);clear ha hb hq h0 qB
 go_enter Tryz.func67,Tryz.ntmps67
 go_wp2_with fail
 refine(jzz na A1 n1 c1 A1' n1' c1' a _ (HA.out.keep e0)).mono ?_;rintro e w1 ⟨rfl,qh⟩;have qe:=qe.keep qh;have qa:=qa.keep qh;have qf:=qf.keep qh;obtain⟨⟨i0,i1,i2⟩,h0,h1,h2⟩:=qe.three;obtain⟨⟨j0,j1,j2⟩,g0,g1,g2⟩:=qa.three;have E1:=Hx (e0.tr qh);clear qh e0;generalize sgnI a=s at*
 go_wp2_with fail
 refine(jzz nb A2 n2 c2 A2' n2' c2' b _ (HB.out.keep E1.out)).mono ?_;rintro e w2 ⟨rfl,qx⟩;generalize sgnI b=t at*;have qe:=qe.keep qx;have qa:=qa.keep qx;have qf:=qf.keep qx;have E2:=Hx (E1.out.tr qx);clear qx i0 i1 i2 h0 h1 h2 j0 j1 j2 g0 g1 g2
 go_upto_region 5 with fail
 go_cut [5,6] (fun s5 s6 wx=>∃(g:Nat) (A:Option Addr) (n c:Nat),s5=.bool (sgB na (a.num.natAbs*b.den) nb (b.num.natAbs*a.den))/\s6=.pointer (some ⟨g,0,none⟩)/\w.heap.size+1+1<g/\n<=1073741823/\Blk wx g 33 #[.slice A n c]/\
  NatR wx A n c (sgV na (a.num.natAbs*b.den) nb (b.num.natAbs*a.den))/\Blk wx w.heap.size 35 #[.bool na,.slice A1 n1 c1,.slice A1' n1' c1']/\Blk wx (w.heap.size+1) 35 #[.bool nb,.slice A2 n2 c2,.slice A2' n2' c2']/\
  Blk wx (w.heap.size+1+1) 35 #[.bool false,.slice none 0 0,.slice none 0 0]/\Ext w wx)
 case first=>
  have qe:Blk w2.drew _ _ _:=qe;have qa:Blk w2.drew _ _ _:=qa;have qf:Blk w2.drew _ _ _:=qf;have E2:=Hx (E2.out.drewN 1);obtain⟨⟨i0,i1,i2⟩,h0,h1,h2⟩:=qe.three;obtain⟨⟨j0,j1,j2⟩,g0,g1,g2⟩:=qa.three;clear h0 h1 h2 g0 g1 g2;have qG:w.heap.size+1+1<w2.heap.size:=qf.lt;have qT:True:=trivial
  go_region_held3 (fun w'=>w'.cell? ⟨w.heap.size,0,none⟩=some (.bool na)/\w'.cell? ⟨w.heap.size,1,none⟩=some (.slice A1 n1 c1)/\w'.cell? ⟨w.heap.size,2,none⟩=some (.slice A1' n1' c1')/\
    w'.cell? ⟨w.heap.size+1,0,none⟩=some (.bool nb)/\w'.cell? ⟨w.heap.size+1,1,none⟩=some (.slice A2 n2 c2)/\w'.cell? ⟨w.heap.size+1,2,none⟩=some (.slice A2' n2' c2')) (first
    |exact⟨i0,i1,i2,j0,j1,j2⟩
    |exact⟨(qe.alloc _).cell 0,(qe.alloc _).cell 1,(qe.alloc _).cell 2,(qa.alloc _).cell 0,(qa.alloc _).cell 1,(qa.alloc _).cell 2⟩
    |exact⟨(qe.far (p:=⟨w2.heap.size,0,none⟩) qo _).cell 0,(qe.far (p:=⟨w2.heap.size,0,none⟩) qo _).cell 1,(qe.far (p:=⟨w2.heap.size,0,none⟩) qo _).cell 2,(qa.far (p:=⟨w2.heap.size,0,none⟩) qn _).cell 0,(qa.far (p:=⟨w2.heap.size,0,none⟩) qn _).cell 1,(qa.far (p:=⟨w2.heap.size,0,none⟩) qn _).cell 2⟩
    |exact⟨(qe.far (p:=⟨w3.heap.size,0,none⟩) qo _).cell 0,(qe.far (p:=⟨w3.heap.size,0,none⟩) qo _).cell 1,(qe.far (p:=⟨w3.heap.size,0,none⟩) qo _).cell 2,(qa.far (p:=⟨w3.heap.size,0,none⟩) qn _).cell 0,(qa.far (p:=⟨w3.heap.size,0,none⟩) qn _).cell 1,(qa.far (p:=⟨w3.heap.size,0,none⟩) qn _).cell 2⟩
    |exact⟨(qe.far (p:=⟨w4.heap.size,0,none⟩) qo _).cell 0,(qe.far (p:=⟨w4.heap.size,0,none⟩) qo _).cell 1,(qe.far (p:=⟨w4.heap.size,0,none⟩) qo _).cell 2,(qa.far (p:=⟨w4.heap.size,0,none⟩) qn _).cell 0,(qa.far (p:=⟨w4.heap.size,0,none⟩) qn _).cell 1,(qa.far (p:=⟨w4.heap.size,0,none⟩) qn _).cell 2⟩)
   (first
    |(go_at_call 57
      have _t:=qT;refine(jzau A1 A2' n1 c1 n2' c2' a.num.natAbs (dk b) _ (HA.out.2.1.keep (by first|exact E2.out|exact E2.out.alloc (.cells #[.slice none 0 0] 33))) (HB.out.2.2.keep (by first|exact E2.out|exact E2.out.alloc (.cells #[.slice none 0 0] 33))) (by omega) (by omega)).mono ?_;rintro e w3 ⟨A3,n3,c3,rfl,qV,qw⟩;clear qT;have qe:Blk w3 w.heap.size 35 #[.bool na,.slice A1 n1 c1,.slice A1' n1' c1']:=(by first|exact qe.keep qw|exact(qe.alloc (.cells #[.slice none 0 0] 33)).keep qw);have qa:Blk w3 (w.heap.size+1) 35 #[.bool nb,.slice A2 n2 c2,.slice A2' n2' c2']:=(by first|exact qa.keep qw|exact(qa.alloc (.cells #[.slice none 0 0] 33)).keep qw);have qf:Blk w3 (w.heap.size+1+1) 35 #[.bool false,.slice none 0 0,.slice none 0 0]:=(by first|exact qf.keep qw|exact(qf.alloc (.cells #[.slice none 0 0] 33)).keep qw);have E3:Hid (Ext w w3):=(by first|exact E2.out.tr qw|exact(E2.out.alloc (.cells #[.slice none 0 0] 33)).tr qw);obtain⟨⟨i0,i1,i2⟩,_⟩:=qe.three;obtain⟨⟨j0,j1,j2⟩,_⟩:=qa.three;have R3:=Hx qV
      (try (have qg:Blk w3 w2.heap.size 33 #[.slice none 0 0]:=((Blk.new w2 33 #[.slice none 0 0]).drewN 1).keep qw;have qo:w.heap.size≠w2.heap.size:=(by have:=qG;omega);have qn:w.heap.size+1≠w2.heap.size:=(by have:=qG;omega);have qL:w.heap.size+1+1<w2.heap.size:=qG;obtain⟨cg,fg⟩:=qg.one))
      have qM:=qf.lt;clear qw qV)
    |(go_at_call 57
      refine(jzau A2 A1' n2 c2 n1' c1' b.num.natAbs (dk a) _ (HB.out.2.1.keep (by first|exact E3.out|exact E3.out.alloc (.cells #[.slice none 0 0] 33))) (HA.out.2.2.keep (by first|exact E3.out|exact E3.out.alloc (.cells #[.slice none 0 0] 33))) (by omega) (by omega)).mono ?_;rintro e w4 ⟨A4,n4,c4,rfl,qP,qm⟩;have qe:Blk w4 w.heap.size 35 #[.bool na,.slice A1 n1 c1,.slice A1' n1' c1']:=(by first|exact qe.keep qm|exact(qe.alloc (.cells #[.slice none 0 0] 33)).keep qm);have qa:Blk w4 (w.heap.size+1) 35 #[.bool nb,.slice A2 n2 c2,.slice A2' n2' c2']:=(by first|exact qa.keep qm|exact(qa.alloc (.cells #[.slice none 0 0] 33)).keep qm);have qf:Blk w4 (w.heap.size+1+1) 35 #[.bool false,.slice none 0 0,.slice none 0 0]:=(by first|exact qf.keep qm|exact(qf.alloc (.cells #[.slice none 0 0] 33)).keep qm);have E4:Hid (Ext w w4):=(by first|exact E3.out.tr qm|exact(E3.out.alloc (.cells #[.slice none 0 0] 33)).tr qm);obtain⟨⟨i0,i1,i2⟩,_⟩:=qe.three;obtain⟨⟨j0,j1,j2⟩,_⟩:=qa.three;have R4:=Hx qP;have qK:Hid (NatR w4 A3 n3 c3 (a.num.natAbs*dn (dk b))):=by first|exact R3.out.keep qm|exact(R3.out.keep ((Ext.refl _).alloc (.cells #[.slice none 0 0] 33))).keep qm
      (try (have qg:=qg.keep qm;obtain⟨cg,fg⟩:=qg.one))
      (try (have qg:Blk w4 w3.heap.size 33 #[.slice none 0 0]:=(Blk.new w3 33 #[.slice none 0 0]).keep qm;have qo:w.heap.size≠w3.heap.size:=(by have:=qM;omega);have qn:w.heap.size+1≠w3.heap.size:=(by have:=qM;omega);have qL:w.heap.size+1+1<w3.heap.size:=qM;obtain⟨cg,fg⟩:=qg.one))
      have qH:=qf.lt;clear qm qP)
    |(go_at_call 114
      refine(jzju na nb A3 A4 n3 c3 n4 c4 (a.num.natAbs*b.den) (b.num.natAbs*a.den) _ (by have:=qK.out;rw [dn_dk]at this;first|exact this|exact this.keep ((Ext.refl _).alloc (.cells #[.slice none 0 0] 33))) (by have:=R4.out;rw [dn_dk]at this;first|exact this|exact this.keep ((Ext.refl _).alloc (.cells #[.slice none 0 0] 33))) (by have:=jzal qK.out HA.out.2.1 HB.out.2.2;omega) (by have:=jzal R4.out HB.out.2.1 HA.out.2.2;omega)).mono ?_;rintro e w5 ⟨A5,n5,c5,rfl,qO,qt⟩;have qe:Blk w5 w.heap.size 35 #[.bool na,.slice A1 n1 c1,.slice A1' n1' c1']:=(by first|exact qe.keep qt|exact(qe.alloc (.cells #[.slice none 0 0] 33)).keep qt);have qa:Blk w5 (w.heap.size+1) 35 #[.bool nb,.slice A2 n2 c2,.slice A2' n2' c2']:=(by first|exact qa.keep qt|exact(qa.alloc (.cells #[.slice none 0 0] 33)).keep qt);have qf:Blk w5 (w.heap.size+1+1) 35 #[.bool false,.slice none 0 0,.slice none 0 0]:=(by first|exact qf.keep qt|exact(qf.alloc (.cells #[.slice none 0 0] 33)).keep qt);have E5:Hid (Ext w w5):=(by first|exact E4.out.tr qt|exact(E4.out.alloc (.cells #[.slice none 0 0] 33)).tr qt);obtain⟨⟨i0,i1,i2⟩,_⟩:=qe.three;obtain⟨⟨j0,j1,j2⟩,_⟩:=qa.three;have R5:=Hx qO
      (try (have qg:=qg.keep qt;obtain⟨cg,fg⟩:=qg.one))
      (try (have qg:Blk w5 w4.heap.size 33 #[.slice none 0 0]:=(Blk.new w4 33 #[.slice none 0 0]).keep qt;have qo:w.heap.size≠w4.heap.size:=(by have:=qH;omega);have qn:w.heap.size+1≠w4.heap.size:=(by have:=qH;omega);have qL:w.heap.size+1+1<w4.heap.size:=qH;obtain⟨cg,fg⟩:=qg.one))
      have q0:=qf.lt;have L5:n5<=1073741823:=(by have h1:=qK.out;have h2:=R4.out;have l3:=jzal h1 HA.out.2.1 HB.out.2.2;have l4:=jzal h2 HB.out.2.1 HA.out.2.2;rw [dn_dk]at h1 h2;have:=cross_len R5.out h1 h2;omega);clear qt qO))
  all_goals
   go_wp2_with fail
   go_meet
   first
    |exact⟨w5.heap.size,A5,n5,c5,rfl,rfl,q0,L5,Blk.new w5 _ _,R5.out.keep ((Ext.refl _).alloc _),qe.alloc _,qa.alloc _,qf.alloc _,E5.out.alloc _⟩
    |exact⟨_,A5,n5,c5,rfl,rfl,qL,L5,qg.set_ 0 _,R5.out.set_ (p:=⟨_,0,none⟩) qg (by decide) _,qe.far qo _,qa.far qn _,qf.far (by simp;omega) _,E5.out.set_ (by simp;omega) _⟩
 case rest=>
  obtain⟨g,A,n,c,rfl,rfl,hg,q3,qg,hR,qe,qa,qf,hx⟩:=hcut;have R:=Hx (hR);have E5:=Hx (hx);obtain⟨qJ,qN⟩:=HQ.out;rw [qN]at qJ;have qU:=Hx (qJ);have qX:NatR wc A n c (crossN a b):=(by rw [<-qN];exact hR);have R':=Hx (qX);clear hR hx qJ qN HQ qX R;generalize sgB na (a.num.natAbs*b.den) nb (b.num.natAbs*a.den)=sb at*;have za:((n1':Int)==0)=decide (a.den=1):=by
   have:=HA.out.2.2.eq_zero;rw [jzd4]at this;by_cases h:a.den=1
   ·rw [yO h];simp;omega
   ·rw [yP h];exact yK.2 (by omega)
  have zb:((n2':Int)==0)=decide (b.den=1):=by
   have:=HB.out.2.2.eq_zero;rw [jzd4]at this;by_cases h:b.den=1
   ·rw [yO h];simp;omega
   ·rw [yP h];exact yK.2 (by omega)
  have qZ:(a.den=1/\b.den=1)\/(a.den=1/\b.den≠1)\/a.den≠1:=(by omega);rcases qZ with⟨hda,hdb⟩|⟨hda,hdb⟩|hda
  case inl=>
   have qC:decide (a.den=1)=true:=yO hda;have qA:decide (b.den=1)=true:=yO hdb;have qD:a+b=mkQ sb (crossN a b) 1:=(by rw [qU.out,hda,hdb]);have HF:=Hx (qD);rw [qC]at za;rw [qA]at zb;obtain⟨⟨i0,i1,i2⟩,h0,h1,h2⟩:=qe.three;clear qD hda hdb qC qA
   go_wp2_with fail
   refine(jzi A1' n1' c1' _).mono ?_;rintro e w6 ⟨rfl,qj⟩;have qa:=qa.keep qj;have qf:=qf.keep qj;have qg:=qg.keep qj;obtain⟨⟨j0,j1,j2⟩,qW,qS,qQ⟩:=qa.three;have E6:=Hx (E5.out.tr qj);have R6:=Hx (R'.out.keep qj);clear qj
   go_wp2_with fail
   refine(jzi A2' n2' c2' _).mono ?_;rintro e w7 ⟨rfl,qk⟩;have qf:=qf.keep qk;have qg:=qg.keep qk;have cg:=qg.one.1;have E7:=Hx (E6.out.tr qk);have R7:=Hx (R6.out.keep qk);clear qk
   go_wp2_with fail
   refine(jzbp sb A n c (crossN a b) _ R7.out).mono ?_;rintro e w8 ⟨ng,B,m,d,B',m',d',rfl,qy,qp⟩;have qf:=qf.keep qp;obtain⟨⟨k0,k1,k2⟩,f0,f1,f2⟩:=qf.three;have E8:=Hx (E7.out.tr qp);have R8:=Hx (qy);clear qp qy;go_wp2;exact bodyPost_ret (v:=.agg #[.bool ng,.slice B m d,.slice B' m' d']) (by simp [results,Tryz.results67,go_sem,(((qf.set_ 0 _).set_ 1 _).set_ 2 _).cell]) rfl (by rw [HF.out];exact jzw qf (by decide) R8.out E8.out (by omega))
  case' inr.inl=>
   rw [yO hda]at za;rw [yP hdb]at zb;obtain⟨⟨i0,i1,i2⟩,h0,h1,h2⟩:=qe.three;clear hda hdb
   go_wp2_with fail
   refine(jzi A1' n1' c1' _).mono ?_;rintro e w6 ⟨rfl,qj⟩;have qe:=qe.keep qj;have qa:=qa.keep qj;have qf:=qf.keep qj;have qg:=qg.keep qj;obtain⟨⟨j0,j1,j2⟩,qW,qS,qQ⟩:=qa.three;have E6:=Hx (E5.out.tr qj);have R6:=Hx (R'.out.keep qj);clear qj
   go_wp2_with fail
   refine(jzi A2' n2' c2' _).mono ?_;rintro e wz ⟨rfl,qi⟩;have qe:=qe.keep qi;have qa:=qa.keep qi;have qf:=qf.keep qi;have qg:=qg.keep qi;have EZ:=Hx (E6.out.tr qi);have RZ:=Hx (R6.out.keep qi);clear qi i0 i1 i2 h0 h1 h2 j0 j1 j2 qW qS qQ
  case' inr.inr=>
   rw [yP hda]at za;obtain⟨⟨i0,i1,i2⟩,h0,h1,h2⟩:=qe.three;clear hda zb
   go_wp2_with fail
   refine(jzi A1' n1' c1' _).mono ?_;rintro e wz ⟨rfl,qi⟩;have qe:=qe.keep qi;have qa:=qa.keep qi;have qf:=qf.keep qi;have qg:=qg.keep qi;have EZ:=Hx (E5.out.tr qi);have RZ:=Hx (R'.out.keep qi);clear qi i0 i1 i2 h0 h1 h2
  all_goals
   have qe:Blk wz.drew _ _ _:=qe;have qa:Blk wz.drew _ _ _:=qa;have qf:Blk wz.drew _ _ _:=qf;have qg:Blk wz.drew _ _ _:=qg;have EZ:=Hx (EZ.out.drewN 1);have RZ:=Hx (RZ.out.keep ((Ext.refl wz).drewN 1));obtain⟨⟨i0,i1,i2⟩,_⟩:=qe.three;obtain⟨⟨j0,j1,j2⟩,_⟩:=qa.three;obtain⟨cg,_⟩:=qg.one;go_wp2
   go_region_held3 (fun w'=>w'.cell? ⟨w.heap.size,0,none⟩=some (.bool na)/\w'.cell? ⟨w.heap.size,1,none⟩=some (.slice A1 n1 c1)/\w'.cell? ⟨w.heap.size,2,none⟩=some (.slice A1' n1' c1')/\
     w'.cell? ⟨w.heap.size+1,2,none⟩=some (.slice A2' n2' c2')/\w'.cell? ⟨g,0,none⟩=some (.slice A n c)) (first|exact⟨i0,i1,i2,j2,cg⟩|exact⟨(fa _ _ _).cell 0,(fa _ _ _).cell 1,(fa _ _ _).cell 2,(fb _ _ _).cell 2,(fg _ _ _).cell 0⟩)
    (first
     |(go_at_call 62
       refine(den_any na A1 n1 c1 A1' n1' c1' a _ (HA.out.keep EZ.out)).mono ?_;rintro e w7 ⟨A7,n7,c7,rfl,qI,qk⟩;have qe:=qe.keep qk;have qa:=qa.keep qk;have qf:=qf.keep qk;have qg:=qg.keep qk;have E7:=Hx (EZ.out.tr qk);have q2:=Hx (RZ.out.keep qk);have R7:=Hx qI;have L7:=den_len qI HA.out.2.2;obtain⟨⟨i0,i1,i2⟩,_⟩:=qe.three;obtain⟨⟨j0,j1,j2⟩,_⟩:=qa.three;obtain⟨cg,_⟩:=qg.one;clear qk qI)
     |(go_at_call 57
       refine(jzau A7 A2' n7 c7 n2' c2' a.den (dk b) _ R7.out (HB.out.2.2.keep E7.out) (by omega) (by omega)).mono ?_;rintro e w8 ⟨A8,n8,c8,rfl,qy,qp⟩;have qe:=qe.keep qp;have qa:=qa.keep qp;have qf:=qf.keep qp;have qg:=qg.keep qp;have E8:=Hx (E7.out.tr qp);have q1:=Hx (q2.out.keep qp);have L8:=jzal qy R7.out (HB.out.2.2.keep E7.out);have qy:NatR w8 A8 n8 c8 (a.den*b.den):=(by rw [dn_dk]at qy;exact qy);have R8:=Hx qy;obtain⟨⟨i0,i1,i2⟩,_⟩:=qe.three;obtain⟨⟨j0,j1,j2⟩,_⟩:=qa.three;obtain⟨cg,_⟩:=qg.one;clear qp qy)
     |(go_at_call 61
       refine(qY.out sb A A8 n c n8 c8 _ q1.out R8.out (by omega) (by omega)).mono ?_;rintro e w9 ⟨ng,B,m,d,B',m',d',rfl,qR,qz⟩;have qe:=qe.keep qz;have qa:=qa.keep qz;have qf:=qf.keep qz;have qg:=qg.keep qz;have E9:=Hx (E8.out.tr qz);have R9:=Hx qR;obtain⟨⟨i0,i1,i2⟩,_⟩:=qe.three;obtain⟨⟨j0,j1,j2⟩,_⟩:=qa.three;obtain⟨⟨k0,k1,k2⟩,f0,f1,f2⟩:=qf.three;obtain⟨cg,_⟩:=qg.one;have fa:=fun u0 u1 u2=>((qe.far (p:=⟨w.heap.size+1+1,0,none⟩) (by simp;omega) u0).far (p:=⟨w.heap.size+1+1,1,none⟩) (by simp;omega) u1).far (p:=⟨w.heap.size+1+1,2,none⟩) (by simp;omega) u2;have fb:=fun u0 u1 u2=>((qa.far (p:=⟨w.heap.size+1+1,0,none⟩) (by simp) u0).far (p:=⟨w.heap.size+1+1,1,none⟩) (by simp) u1).far (p:=⟨w.heap.size+1+1,2,none⟩) (by simp) u2;have fg:=fun u0 u1 u2=>((qg.far (p:=⟨w.heap.size+1+1,0,none⟩) (by simp;omega) u0).far (p:=⟨w.heap.size+1+1,1,none⟩) (by simp;omega) u1).far (p:=⟨w.heap.size+1+1,2,none⟩) (by simp;omega) u2;clear qz qR))
   go_wp2;exact bodyPost_ret (v:=.agg #[.bool ng,.slice B m d,.slice B' m' d']) (by simp [results,Tryz.results67,go_sem,(((qf.set_ 0 _).set_ 1 _).set_ 2 _).cell]) rfl (by rw [qU.out];exact jzw qf (by decide) R9.out E9.out (by omega))
end Go.Proofs.YthbmikapohlikaaGreatDoor
