/- Part 5 of 24 of what the Flows claims share (the white space is struck, the texts are joined). -/
import Derived.Laws.EntriesVeiled
import Derived.Test.YthbmikapohlikaaGreatDoorZ04
set_option linter.unusedVariables false
set_option linter.unusedSimpArgs false
set_option maxRecDepth 100000
set_option maxHeartbeats 8000000
namespace Go.Proofs.YthbmikapohlikaaGreatDoor.Dig
def guess(B u0 u1 u2 v1 v2:Nat):Nat:=min (B-1) (((u0*B+u1)*B+u2)/(v1*B+v2))
theorem guess_done{B u0 u1 u2 v1 v2 g r:Nat}(hv:0<v1*B+v2)(h:g*v1+r=u0*B+u1)(h1:g<B)(h2:g*v2<=r*B+u2)(hG:guess B u0 u1 u2 v1 v2<=g):g=guess B u0 u1 u2 v1 v2:=by
 have e:g*(v1*B+v2)<=(u0*B+u1)*B+u2:=by
  rw [<-h,Nat.mul_add,xP, <-Nat.mul_assoc];omega
 have e2:g<=((u0*B+u1)*B+u2)/(v1*B+v2):=(Nat.le_div_iff_mul_le hv).2 e;unfold guess at*;omega
theorem guess_more{B u0 u1 u2 v1 v2 g r:Nat}(hB:0<B)(hv:0<v1*B+v2)(h:g*v1+r=u0*B+u1)(hc:B<=g\/r*B+u2<g*v2):guess B u0 u1 u2 v1 v2<g:=by
 unfold guess;rcases hc with hc|hc
 ·omega
 ·have e:(u0*B+u1)*B+u2<g*(v1*B+v2):=by
   rw [<-h,Nat.mul_add,xP, <-Nat.mul_assoc];omega
  have:=(Nat.div_lt_iff_lt_mul hv).2 e;omega
theorem guess_break{B u0 u1 u2 v1 v2 g r:Nat}(hv:0<v1*B+v2)(h:g*v1+r=u0*B+u1)(hu:u0<=v1)(hu1:u1<B)(hv2:v2<B)(hr:B<=r)(hG:guess B u0 u1 u2 v1 v2<=g):g<B/\g=guess B u0 u1 u2 v1 v2:=by
 have h1:g<B:=by
  rcases Nat.lt_or_ge g B with h2|h2
  ·exact h2
  ·have h3:B*v1<=g*v1:=xS _ h2
   have h4:u0*B<=v1*B:=xS _ hu;rw [vE v1 B]at h4;omega
 refine⟨h1,guess_done hv h h1 ?_ hG⟩;have h5:g*v2<=B*B:=Nat.mul_le_mul (by omega) (by omega);have h6:B*B<=r*B:=xS _ hr;omega
theorem guess_start{B u0 u1 u2 v1 v2:Nat}(hv1:0<v1)(hu2:u2<B):guess B u0 u1 u2 v1 v2<=(u0*B+u1)/v1:=by
 rw [Nat.le_div_iff_mul_le hv1];have hB:0<B:=(by omega);have h0:guess B u0 u1 u2 v1 v2<=((u0*B+u1)*B+u2)/(v1*B+v2):=(by unfold guess;omega);have hv:0<v1*B+v2:=(by have:=Nat.mul_pos hv1 hB;omega);have h1:=(Nat.le_div_iff_mul_le hv).1 h0;generalize guess B u0 u1 u2 v1 v2=g at*;rw [Nat.mul_add, <-Nat.mul_assoc]at h1;have h2:g*v1*B<(u0*B+u1+1)*B:=(by rw [xP (u0*B+u1) 1 B,xQ];omega);have h3:=Nat.lt_of_mul_lt_mul_right h2;omega
theorem jzj3{B k U V u v u0 u1 u2 v1 v2:Nat}(hB:0<B)(hU:U=((u0*B+u1)*B+u2)*B^k+u)(hu:u<B^k)(hV:V=(v1*B+v2)*B^k+v)(hv:v<B^k)(hlt:U<V*B)(hV2:B<=v1*B+v2):
  U/V<=guess B u0 u1 u2 v1 v2/\guess B u0 u1 u2 v1 v2<=U/V+1:=by
 unfold guess;generalize (u0*B+u1)*B+u2=U3 at*;generalize v1*B+v2=V2 at*;have hP:0<B^k:=Nat.pow_pos hB;generalize B^k=P at*;have qa:0<V:=(by have:=Nat.mul_pos (show 0<V2 by omega) hP;omega);constructor
 ·have h1:U/V<B:=(Nat.div_lt_iff_lt_mul qa).2 (by rw [vE];exact hlt)
  have h2:=Nat.div_mul_le_self U V;generalize U/V=Q at*;have h3:Q*V2*P<(U3+1)*P:=by
   rw [hV,Nat.mul_add, <-Nat.mul_assoc]at h2;rw [xP U3 1 P,xQ];omega
  have h4:=Nat.lt_of_mul_lt_mul_right h3;have h5:Q<=U3/V2:=(Nat.le_div_iff_mul_le (by omega)).2 (by omega);omega
 ·have h0:min (B-1) (U3/V2)<=U3/V2:=by omega
  have h1:=(Nat.le_div_iff_mul_le (show 0<V2 by omega)).1 h0;have hg:min (B-1) (U3/V2)<=B:=(by omega);generalize min (B-1) (U3/V2)=g at*;cases g with
  |zero=>exact yZ _
  |succ g=>
   have h2:g<=U/V:=by
    rw [Nat.le_div_iff_mul_le qa,hV,hU,Nat.mul_add, <-Nat.mul_assoc];have h3:(g+1)*V2*P<=U3*P:=xS _ h1;rw [xP,xP,xQ]at h3;have h4:g*v<=V2*P:=Nat.mul_le_mul (by omega) (by omega);omega
   exact Nat.succ_le_succ h2
end Go.Proofs.YthbmikapohlikaaGreatDoor.Dig
namespace Go.Proofs.YthbmikapohlikaaGreatDoor.Dig
theorem shl_lt{B c p x low:Nat}(hB:B=c*p)(hlow:low<p)(hc:0<c):x*p%B+low<B:=by
 subst hB;rw [Nat.mul_mod_mul_right];have h1:x%c<c:=xT _ hc;have h2:(x%c+1)*p<=c*p:=xS _ h1;rw [xP,xQ]at h2;omega
theorem shl_step{B p k x low:Nat}{xs ls:List Nat}(hk:k<xs.length)(hl:k<ls.length)(ex:x=xs[k]?.getD 0)(h:val B (ls.take k)+B^k*low=val B (xs.take k)*p):
  val B ((ls.set k (x*p%B+low)).take (k+1))+B^(k+1)*(x*p/B)=val B (xs.take (k+1))*p:=by
 rw [val_take_set B ls k _ hl,val_take_succ' B xs k hk];simp only [List.getD];rw [<-ex,xP, <-h,Nat.mul_add,vD];have e:B^k*(x*p%B)+B^k*B*(x*p/B)=B^k*x*p:=by
  rw [Nat.mul_assoc, <-Nat.mul_add,Nat.mod_add_div, <-Nat.mul_assoc]
 omega
theorem shr_step{B p c d D:Nat}(hp:0<p)(hB:B=c*p)(hc:0<c)(hd:d<B):(d+B*D)/p=(D%B*B+d)/p%B+B*(D/p):=by
 have qe:0<B:=(by rw [hB];exact Nat.mul_pos hc hp);have qa:∀q r,r<p->((q*p+r)*B+d)/p=q*B+(r*B+d)/p:=by
  intro q r hr;have e:(q*p+r)*B+d=(r*B+d)+p*(q*B):=by
   rw [xP,Nat.mul_assoc,Nat.mul_left_comm q p B];omega
  rw [e,Nat.add_mul_div_left _ _ hp];omega
 have small:∀r,r<p->(r*B+d)/p<B:=by
  intro r hr;rw [Nat.div_lt_iff_lt_mul hp];have:(r+1)*B<=p*B:=xS _ hr;rw [xP,xQ,vE p B]at this;omega
 have hr:D%p<p:=xT _ hp;have h1:(d+B*D)/p=D/p*B+(D%p*B+d)/p:=by
  have:=qa (D/p) (D%p) hr;rw [vE (D/p) p,Nat.div_add_mod]at this;rw [Nat.add_comm d,vE B D];exact this
 have h2:D%B%p=D%p:=Nat.mod_mod_of_dvd D (by rw [hB];exact Nat.dvd_mul_left _ _);have h3:(D%B*B+d)/p=D%B/p*B+(D%p*B+d)/p:=by
  have:=qa (D%B/p) (D%B%p) (by rw [h2];exact hr);rw [vE (D%B/p) p,Nat.div_add_mod,h2]at this;exact this
 rw [h1,h3,Nat.add_comm (D%B/p*B),Nat.add_mul_mod_self_right,Nat.mod_eq_of_lt (small _ hr),vE B];omega
theorem red_step{B i q x y pc br d br':Nat}{uo un vs:List Nat}(hv:i<vs.length)(hu:i<uo.length)(hn:i<un.length)(ey:y=vs[i]?.getD 0)(ex:x=uo[i]?.getD 0)(hd:x+B*br'=d+(pc+y*q)%B+br)
  (h:val B (un.take i)+q*val B (vs.take i)=val B (uo.take i)+B^i*(pc+br)):
  val B ((un.set i d).take (i+1))+q*val B (vs.take (i+1))=val B (uo.take (i+1))+B^(i+1)*((pc+y*q)/B+br'):=by
 rw [val_take_set B un i _ hn,val_take_succ' B vs i hv,val_take_succ' B uo i hu];simp only [List.getD];rw [<-ey, <-ex,vD];have e1:q*(B^i*y)=B^i*(y*q):=(by rw [Nat.mul_left_comm,vE q y]);have e2:B^i*B*((pc+y*q)/B+br')+B^i*((pc+y*q)%B)=B^i*(pc+y*q)+B^i*(B*br'):=by
  rw [Nat.mul_assoc, <-Nat.mul_add,Nat.mul_add B,Nat.add_right_comm,Nat.div_add_mod,Nat.mul_add]
 have e3:B^i*x+B^i*(B*br')=B^i*d+B^i*((pc+y*q)%B)+B^i*br:=by
  rw [<-Nat.mul_add,hd,Nat.mul_add,Nat.mul_add]
 have e4:B^i*(pc+y*q)=B^i*pc+B^i*(y*q):=Nat.mul_add _ _ _;have e5:q*(val B (vs.take i)+B^i*y)=q*val B (vs.take i)+q*(B^i*y):=Nat.mul_add _ _ _;rw [Nat.mul_add]at h;omega
theorem red_top{B q x pc br d br' n V:Nat}{uo un:List Nat}(hu:n+1=uo.length)(hn:n<un.length)(hl:un.length=uo.length)(ex:x=uo[n]?.getD 0)(hd:x+B*br'=d+pc+br)
  (h:val B (un.take n)+q*V=val B (uo.take n)+B^n*(pc+br)):
  val B (un.set n d)+q*V=val B uo+B^(n+1)*br':=by
 have h1:=val_take_set B un n d hn;rw [yU (by rw [yV];omega)]at h1;have h2:=val_take_succ' B uo n (by omega);rw [yU (by omega)]at h2;simp only [List.getD]at h2;rw [h1,h2, <-ex,vD];have e3:B^n*x+B^n*B*br'=B^n*d+B^n*pc+B^n*br:=by
  rw [Nat.mul_assoc, <-Nat.mul_add,hd,Nat.mul_add,Nat.mul_add]
 rw [Nat.mul_add]at h;omega
theorem red_none{q V U R:Nat}(hV:0<V)(h:R+q*V=U)(hq:U/V<=q):q=U/V/\R=U%V:=by
 have h1:q<=U/V:=(Nat.le_div_iff_mul_le hV).2 (by omega);have h2:q=U/V:=Nat.le_antisymm h1 hq;refine⟨h2,?_⟩;have h3:=Nat.div_add_mod U V;rw [<-h2,vE]at h3;omega
theorem red_back{q V U R R' M c:Nat}(hV:0<V)(hR:R<M)(hR':R'<M)(h:R+q*V=U+M)(h':R'+M*c=R+V)(hc:c<=1)(hq:q<=U/V+1):0<q/\q-1=U/V/\R'=U%V:=by
 have h1:U/V<q:=(Nat.div_lt_iff_lt_mul hV).2 (by omega);have h2:q=U/V+1:=Nat.le_antisymm hq h1;have h3:=Nat.div_add_mod U V;have h4:q*V=V*(U/V)+V:=(by rw [h2,xP,xQ,vE]);have hm:c=0\/c=1:=(by omega);generalize U/V=Q at*;refine⟨by omega,by omega,?_⟩;generalize V*Q=X at*;generalize q*V=Y at*;rcases hm with rfl|rfl
 ·simp at h';omega
 ·simp at h';omega
end Go.Proofs.YthbmikapohlikaaGreatDoor.Dig
namespace Go.Proofs.YthbmikapohlikaaGreatDoor.Dig
theorem top3{B n:Nat}{uo:List Nat}(h:uo.length=n+1)(hn:2<=n):
  val B uo=((uo[n]?.getD 0*B+uo[n-1]?.getD 0)*B+uo[n-2]?.getD 0)*B^(n-2)+val B (uo.take (n-2)):=by
 have h1:=val_split' B uo (n-2) (by omega);have h2:=val_drop' B uo (n-2) (by omega);have h3:=val_drop' B uo (n-1) (by omega);have h4:=val_drop' B uo n (by omega);rw [List.drop_of_length_le (show uo.length<=n+1 by omega),val_nil,Nat.mul_zero,Nat.add_zero]at h4;rw [show n-2+1=n-1 by omega]at h2;rw [show n-1+1=n by omega]at h3;simp only [List.getD]at h2 h3 h4;rw [h1,h2,h3,h4,vE (B^(n-2)),Nat.add_comm (val B _)]
 congr 2
 rw [vE B,Nat.add_comm,vE B,Nat.add_comm (uo[n-1]?.getD 0)]
theorem top2{B n:Nat}{vs:List Nat}(h:vs.length=n)(hn:2<=n):val B vs=(vs[n-1]?.getD 0*B+vs[n-2]?.getD 0)*B^(n-2)+val B (vs.take (n-2)):=by
 have h1:=val_split' B vs (n-2) (by omega);have h2:=val_drop' B vs (n-2) (by omega);have h3:=val_drop' B vs (n-1) (by omega);rw [show n-1+1=n by omega,List.drop_of_length_le (show vs.length<=n by omega),val_nil,Nat.mul_zero,Nat.add_zero]at h3;rw [show n-2+1=n-1 by omega]at h2;simp only [List.getD]at h2 h3;rw [h1,h2,h3,vE (B^(n-2)),Nat.add_comm (val B _),vE B,Nat.add_comm (vs[n-2]?.getD 0)]
theorem top1{B n:Nat}{vs:List Nat}(h:vs.length=n+1):val B vs=vs[n]?.getD 0*B^n+val B (vs.take n):=by
 have h1:=val_take_succ' B vs n (by omega);rw [yU (by omega)]at h1;simp only [List.getD]at h1;rw [h1,vE,Nat.add_comm]
theorem jzg6{B:Nat}(hB:0<B){ds:List Nat}(h:∀d∈ds,d<B)(k:Nat)(hk:k<=ds.length):val B (ds.take k)<B^k:=by
 have:=val_lt hB (ds:=ds.take k) (fun d hd=>h d (xM hd));rw [xF,Nat.min_eq_left hk]at this;exact this
theorem norm{B n p:Nat}{ys:List Nat}(hB:0<B)(hys:∀d∈ys,d<B)(h:ys.length=n+1)(h2:(ys[n]?.getD 0+1)*p<=B)(h1:B<=2*(ys[n]?.getD 0*p)):
  val B ys*p<B^(n+1)/\B^(n+1)<=2*(val B ys*p):=by
 have e:=top1 (B:=B) h;have hl:=jzg6 hB hys n (by omega);generalize ys[n]?.getD 0=t at*;generalize val B (ys.take n)=l at*;have hP:0<B^n:=Nat.pow_pos hB;have hp:0<p:=by
  rcases Nat.eq_zero_or_pos p with e0|e0
  ·subst e0;simp at h1;omega
  ·exact e0
 rw [e,vD];constructor
 ·have h3:(t*B^n+l)*p<((t+1)*B^n)*p:=Nat.mul_lt_mul_of_pos_right (by rw [xP,xQ];omega) hp
  refine yL h3 ?_;rw [Nat.mul_right_comm,vE];exact Nat.mul_le_mul_left _ h2
 ·have h3:B^n*B<=B^n*(2*(t*p)):=Nat.mul_le_mul_left _ h1
  refine yY h3 ?_;rw [Nat.mul_left_comm];refine Nat.mul_le_mul_left _ ?_;rw [xP,vE (B^n),Nat.mul_right_comm];omega
theorem window{B j n V:Nat}{du:List Nat}(hB:0<B)(hdu:∀d∈du,d<B)(hj:j+n+1<=du.length)(hlow:val B (du.drop (j+1))<V)(hV:V<=B^n):
  val B (du.drop (j+n+1))=0/\val B ((du.drop j).take (n+1))=val B (du.drop j)/\val B (du.drop j)<V*B:=by
 have h1:=val_drop' B du j (by omega);have hd:du.getD j 0<B:=by
  rw [List.getD_eq_getElem?_getD,yG (by omega)];exact hdu _ (xR _)
 have h2:B*(val B (du.drop (j+1))+1)<=B*V:=Nat.mul_le_mul_left _ hlow;rw [Nat.mul_add,Nat.mul_one]at h2;have h3:val B (du.drop j)<V*B:=(by rw [h1,vE V];omega);have h4:=val_split' B (du.drop j) (n+1) (by rw [List.length_drop];omega);rw [List.drop_drop]at h4;have h5:V*B<=B^(n+1):=(by rw [vD];exact xS _ hV);have h6:val B (du.drop (j+(n+1)))=0:=by
  rcases Nat.eq_zero_or_pos (val B (du.drop (j+(n+1))))with e|e
  ·exact e
  ·have:=Nat.mul_le_mul_left (B^(n+1)) (show 1<=val B (du.drop (j+(n+1)))from e)
   omega
 refine⟨h6,?_,h3⟩;rw [h6,Nat.mul_zero,Nat.add_zero]at h4;exact h4.symm
theorem split3(du:List Nat)(j n:Nat):du=du.take j++((du.drop j).take (n+1)++du.drop (j+n+1)):=by
 rw [show du.drop (j+n+1)=(du.drop j).drop (n+1) by rw [List.drop_drop,Nat.add_assoc],List.take_append_drop,List.take_append_drop]
theorem top_le{B n U V u0 v1 u v:Nat}(hU:U=u0*B^(n+1)+u)(hV:V=v1*B^n+v)(hv:v<B^n)(hlt:U<V*B):u0<=v1:=by
 rcases Nat.lt_or_ge v1 u0 with h|h
 ·have h1:(v1+1)*B^(n+1)<=u0*B^(n+1):=xS _ h
  have h2:V*B<=(v1+1)*B^n*B:=xS _ (by rw [hV,xP,xQ];omega);rw [Nat.mul_assoc,show B^n*B=B^(n+1)from rfl]at h2;omega
 ·exact h
theorem low_start{B nq n p V X:Nat}{us:List Nat}(hB:0<B)(hus:nq<=us.length)(hX:val B us=X*p)(hX2:X<B^(nq+n))(hV:B^(n+1)<=2*V)(hp:2*p<=B)(hp0:0<p):val B (us.drop nq)<V:=by
 rcases Nat.lt_or_ge (val B (us.drop nq)) V with h|h
 ·exact h
 ·exfalso
  have h1:=val_split' B us nq hus;have h2:B^nq*V<=B^nq*val B (us.drop nq):=Nat.mul_le_mul_left _ h;have h3:B^nq*B^(n+1)<=B^nq*(2*V):=Nat.mul_le_mul_left _ hV;have h4:B^(nq+n)*(2*p)<=B^(nq+n)*B:=Nat.mul_le_mul_left _ hp;have h5:X*p<B^(nq+n)*p:=Nat.mul_lt_mul_of_pos_right hX2 hp0;have e1:B^nq*B^(n+1)=B^(nq+n)*B:=(by rw [<-Nat.pow_add, <-Nat.add_assoc,vD]);have e2:B^(nq+n)*(2*p)=2*(B^(nq+n)*p):=(by rw [Nat.mul_left_comm]);have e3:B^nq*(2*V)=2*(B^nq*V):=(by rw [Nat.mul_left_comm]);omega
theorem div_step{B j k n A V:Nat}{du dq un:List Nat}(hk:k=j+1)(hj:j+n+1<=du.length)(hq:j<dq.length)(hV:0<V)(hA:A=val B (dq.drop k)*B^k*V+val B du)
  (hb:val B (du.drop (j+n+1))=0) (hw:val B ((du.drop j).take (n+1))=val B (du.drop j)) (hun:un.length=n+1) (hr:val B un=val B ((du.drop j).take (n+1))%V):
  A=val B ((dq.set j (val B ((du.drop j).take (n+1))/V)).drop j)*B^j*V+val B (du.take j++(un++du.drop (j+n+1)))/\val B ((du.take j++(un++du.drop (j+n+1))).drop j)<V:=by
 subst hk;have hl:(du.take j).length=j:=(by rw [xF,Nat.min_eq_left (by omega)]);constructor
 ·rw [drop_set_self _ _ _ hq,val_cons,jzbd,jzbd,hb,Nat.mul_zero,Nat.add_zero,hl,hr]
  simp only [Nat.add_zero];have h1:=val_split' B du j (by omega);rw [<-hw]at h1;rw [hA,h1];generalize val B ((du.drop j).take (n+1))=U at*;generalize val B (du.take j)=L;generalize val B (dq.drop (j+1))=D;have h2:=Nat.div_add_mod U V;have e1:B^j*U=B^j*(V*(U/V))+B^j*(U%V):=(by rw [<-Nat.mul_add,h2]);have e2:(U/V+B*D)*B^j*V=B^j*(V*(U/V))+D*B^(j+1)*V:=by
   rw [xP,xP,vD]
   congr 1
   ·rw [vE (U/V),Nat.mul_assoc,vE (U/V)]
   ·rw [vE B D,Nat.mul_assoc D B,vE B]
  omega
 ·rw [List.drop_append_of_le_length (by omega),List.drop_of_length_le (by omega),List.nil_append,jzbd,hb,Nat.mul_zero,Nat.add_zero,hr]
  exact xT _ hV
theorem digit_facts{B j:Nat}{du vs:List Nat}(hB:2<=B)(hL:2<=vs.length)(hdu:∀d∈du,d<B)(hvs:∀d∈vs,d<B)(hj:j+vs.length+1<=du.length)(hlow:val B (du.drop (j+1))<val B vs)(hnorm:B^vs.length<=2*val B vs):
  val B (du.drop (j+vs.length+1))=0/\val B ((du.drop j).take (vs.length+1))=val B (du.drop j)/\
  val B ((du.drop j).take (vs.length+1))/val B vs<=guess B (du[j+vs.length]?.getD 0) (du[j+vs.length-1]?.getD 0) (du[j+vs.length-2]?.getD 0) (vs[vs.length-1]?.getD 0) (vs[vs.length-2]?.getD 0)/\
  guess B (du[j+vs.length]?.getD 0) (du[j+vs.length-1]?.getD 0) (du[j+vs.length-2]?.getD 0) (vs[vs.length-1]?.getD 0) (vs[vs.length-2]?.getD 0)<=val B ((du.drop j).take (vs.length+1))/val B vs+1/\
  du[j+vs.length]?.getD 0<=vs[vs.length-1]?.getD 0/\B<=2*vs[vs.length-1]?.getD 0+1/\0<val B vs:=by
 have qe:0<B:=(by omega);have qg:=val_lt qe hvs;obtain⟨wz,ww,wl⟩:=window (n:=vs.length) qe hdu (by omega) hlow (Nat.le_of_lt qg);have qi:((du.drop j).take (vs.length+1)).length=vs.length+1:=(by rw [xF,List.length_drop];omega);have qn:∀d∈(du.drop j).take (vs.length+1),d<B:=fun d hd=>hdu d (List.mem_of_mem_drop (xM hd));have t3:=top3 (B:=B) qi (by omega);have t2:=top2 (B:=B) (vs:=vs) rfl hL;have t1:=top1 (B:=B) (vs:=vs) (n:=vs.length-1) (by omega);have s1:=top1 (B:=B) qi;have qa:∀i,i<=vs.length->((du.drop j).take (vs.length+1))[i]?.getD 0=du[j+i]?.getD 0:=fun i hi=>by
  rw [xG,if_pos (by omega),List.getElem?_drop]
 rw [qa _ (yX _),qa (vs.length-1) (by omega),qa (vs.length-2) (by omega),show j+(vs.length-1)=j+vs.length-1 by omega,show j+(vs.length-2)=j+vs.length-2 by omega]at t3;rw [qa _ (yX _)]at s1;have l3:=jzg6 qe qn (vs.length-2) (by omega);have l2:=jzg6 qe hvs (vs.length-2) (by omega);have l1:=jzg6 qe hvs (vs.length-1) (by omega);have qh:val B ((du.drop j).take (vs.length+1))<val B vs*B:=(by rw [ww];exact wl);have qm:B<=2*vs[vs.length-1]?.getD 0+1:=by
  rcases Nat.lt_or_ge (2*vs[vs.length-1]?.getD 0+1) B with h|h
  ·exfalso
   have h1:B^vs.length=B^(vs.length-1)*B:=(by rw [<-vD];congr 1;omega);have h2:B^(vs.length-1)*(2*vs[vs.length-1]?.getD 0+2)<=B^(vs.length-1)*B:=Nat.mul_le_mul_left _ h;rw [Nat.mul_add,Nat.mul_left_comm,vE (B^(vs.length-1)) (vs[vs.length-1]?.getD 0)]at h2;omega
  ·exact h
 have qj:0<val B vs:=by
  have:0<B^vs.length:=Nat.pow_pos qe;omega
 have qf:du[j+vs.length]?.getD 0<=vs[vs.length-1]?.getD 0:=by
  exact top_le (n:=vs.length-1) (by rw [show vs.length-1+1=vs.length by omega];exact s1) t1 l1 qh
 have qk:B<=vs[vs.length-1]?.getD 0*B+vs[vs.length-2]?.getD 0:=by
  have:1*B<=vs[vs.length-1]?.getD 0*B:=xS _ (by omega);omega
 obtain⟨q1,q2⟩:=jzj3 qe t3 l3 t2 l2 qh qk;exact⟨wz,ww,q1,q2,qf,qm,qj⟩
end Go.Proofs.YthbmikapohlikaaGreatDoor.Dig
namespace Go.Proofs.YthbmikapohlikaaGreatDoor
open Go.RowKit
theorem jzem(s:Nat)(hs:s<32):B32=2^(32-s)*2^s:=by
 rw [<-Nat.pow_add,Nat.sub_add_cancel (by omega)];rfl
theorem shl_digit(x low s:Nat)(hx:x<4294967296)(hs:s<32)(hlow:low<2^s):
  bits BinOp.or IntKind.u32 ((x:Int)*2^s%4294967296) (low:Int)=((x*2^s%B32+low:Nat):Int)/\IntKind.u64.wrap ((x:Int)*2^s)/4294967296%4294967296=((x*2^s/B32:Nat):Int)/\x*2^s/B32<2^s/\x*2^s%B32+low<B32:=by
 have hp:2^s<4294967296:=Nat.pow_lt_pow_of_lt (a:=2) (by decide) hs;have hc:0<2^(32-s):=Nat.pow_pos (by decide);have e:(x:Int)*2^s=((x*2^s:Nat):Int):=(by rw [Int.natCast_mul,Int.natCast_pow];rfl);have h1:x*2^s<4294967296*2^s:=Nat.mul_lt_mul_of_pos_right hx (Nat.pow_pos (by decide));have h2:=Dig.shl_lt (x:=x) (jzem s hs) hlow hc;have hm:x*2^s%B32=2^s*(x%2^(32-s)):=by
  rw [jzem s hs,Nat.mul_mod_mul_right,vE]
 have qa:x*2^s%B32|||low=x*2^s%B32+low:=by
  rw [hm];exact(Nat.two_pow_add_eq_or_of_lt hlow _).symm
 rw [jzo]at*;refine⟨?_,?_,?_,h2⟩
 ·rw [e,show((x*2^s:Nat):Int)%4294967296=((x*2^s%4294967296:Nat):Int) by omega,u32_or_nat _ _ (by omega) (by omega),qa]
 ·rw [e,IntKind.wrap_u64]
  omega
 ·rw [Nat.div_lt_iff_lt_mul (by decide),vE (2^s)];exact h1
theorem shl_any(A:Option Addr)(c s len:Nat)(xs:List Nat)(w:World)(hc:xs.length<=c)(hxs:∀d∈xs,d<B32)(hr:RdT w 167 A (u32s xs))(hn:xs.length<=1073741824)(hs:s<32)(qj:len=xs.length\/len=xs.length+1):
  Calls Tryz.prog 195 #[.slice A xs.length c,.int .i64 s,.int .i64 len] w fun e w'=>∃(g:Nat) (ls:List Nat),e=.returned (.slice (some ⟨g,0,none⟩) len len)/\Row w' g ls/\ls.length=len/\(∀d∈ls,d<B32)/\w.heap.size<=g/\Ext w w'/\Dig.val B32 ls=Dig.val B32 xs*2^s%B32^len:=by
 have qy:=run_make_row' (P:=Tryz.prog) 31 167 (.int .u32 0) 4 Tryz.underlying31 Tryz.info167 rfl .i64 .i64 len (by omega) (by omega);have qD:xs.length<=len:=(by omega);have qF:len<=xs.length+1:=(by omega);clear qj
 go_enter Tryz.func195,Tryz.ntmps195
 go_wp2;clear qy
 go_loopw [8,9,10,15] (fun lo _ _ it wr=>∃(k low:Nat) (ls:List Nat),k<=xs.length/\it=.int .i64 k/\lo=.int .u32 low/\low<2^s/\ls.length=len/\(∀d∈ls,d<B32)/\(∀j,k<=j->ls[j]?.getD 0=0)/\
  Dig.val B32 (ls.take k)+B32^k*low=Dig.val B32 (xs.take k)*2^s/\Row wr w.heap.size ls/\Ext w wr) (fun _ _ _ i _=>xs.length-(intOf i).toNat)
 case atStart=>
  refine⟨0,0,List.replicate len 0,yZ _,rfl,rfl,Nat.pow_pos (by decide),by simp,fun d hd=>?_,fun j _=>?_,by simp [Dig.val],Row.made _ _ rfl,(Ext.refl _).alloc _⟩
  ·have:=uF hd;subst this;exact jzm
  ·rw [xB];split <;> rfl
 case round=>
  obtain⟨k,low,ls,hk,rfl,rfl,qi,qt,qm,qh,qk,qa,hx⟩:=hrel;have HV:=Hx qk;have qg:=Hx qt;have HZ:=Hx qh;clear qk qt qh;by_cases qz:k<xs.length
  ·obtain⟨b1,o1,rfl,qA,qe⟩:=hr.rd.u32 (k:=k) (by omega)
   have qE:wr.cell? ⟨b1,o1+k,none⟩=_:=(hx.cell (p:=⟨b1,o1+k,none⟩) qA).trans (qe k (by omega));have qC:=qa.cell (i:=k) (by have:=qg.out;omega);have qB:=qa.frozen k;have qw:=jzj hxs k;rw [jzo]at qw;generalize hxe:xs[k]?.getD 0=x at*;generalize ls[k]?.getD 0=dk at*;have HX:=Hx hxe;have qp:=Hx qi;clear hxe qe qi;obtain⟨d1,d2,d3,d4⟩:=shl_digit x low s qw hs qp.out;have D1:=Hx d1;have D2:=Hx d2;have D3:=Hx d3;have D4:=Hx d4;clear d1 d2 d3 d4;go_wp2
   go_roundw
   case rel=>
    rw [D1.out,D2.out];exact⟨k+1,x*2^s/B32,ls.set k (x*2^s%B32+low),by omega,by go_num,rfl,D3.out,by rw [yV];exact qg.out,Dig.set_lt qm D4.out,fun j hj=>by rw [vN (by omega)];exact HZ.out j (by omega),
     Dig.shl_step qz (by have:=qg.out;omega) HX.out.symm HV.out,qa.set_ _ _,Below.setCell hx (by simp) _⟩
   case measure=>simp [intOf];omega
  ·have qx:k=xs.length:=by omega
   subst qx;rw [yU (yX _)]at HV;have qn:=Dig.val_lt jzm hxs;by_cases qj:xs.length<len
   ·have qo:len=xs.length+1:=by omega
    subst qo;have qC:=qa.cell (i:=xs.length) (by have:=qg.out;omega);have qB:=qa.frozen xs.length;generalize ls[xs.length]?.getD 0=dk at*;have hp:2^s<B32:=(by show 2^s<2^32;exact Nat.pow_lt_pow_of_lt (by decide) hs);have qf:Dig.val B32 (ls.set xs.length low)=Dig.val B32 xs*2^s%B32^(xs.length+1):=by
     have h1:=Dig.val_take_set B32 ls xs.length low (by have:=qg.out;omega);rw [yU (by rw [yV];have:=qg.out;omega)]at h1;rw [h1,HV.out,Nat.mod_eq_of_lt];rw [vD];exact Nat.mul_lt_mul_of_lt_of_le qn (Nat.le_of_lt hp) jzm
    have HF:=Hx qf;have HP:=Hx hp;clear qf qn hp;go_wp2;go_ret;exact⟨w.heap.size,ls.set xs.length low,rfl,qa.set_ _ _,by rw [yV];exact qg.out,Dig.set_lt qm (Nat.lt_trans qi HP.out),yX _,Below.setCell hx (by simp) _,HF.out⟩
   ·have qo:len=xs.length:=by omega
    subst qo;have qf:Dig.val B32 ls=Dig.val B32 xs*2^s%B32^xs.length:=by
     have h1:=HV.out;rw [yU (by rw [qg.out];exact yX _)]at h1;have h2:=Dig.val_lt jzm qm;rw [qg.out]at h2;rw [<-h1,Nat.add_mul_mod_self_left,Nat.mod_eq_of_lt h2]
    have HF:=Hx qf;clear qf qn;go_wp2;go_ret;exact⟨w.heap.size,ls,rfl,qa,qg.out,qm,yX _,hx,HF.out⟩
theorem drop_mod(xs:List Nat)(hxs:∀d∈xs,d<B32)(k:Nat):Dig.val B32 (xs.drop k)%B32=xs[k]?.getD 0:=by
 by_cases hk:k<xs.length
 ·rw [Dig.val_drop' B32 xs k hk,Nat.add_mul_mod_self_left,Nat.mod_eq_of_lt]
  ·rfl
  ·exact jzj hxs k
 ·rw [List.drop_of_length_le (by omega),yI (by omega)]
  rfl
theorem shr_any(A:Option Addr)(c s:Nat)(xs:List Nat)(w:World)(hc:xs.length<=c)(hxs:∀d∈xs,d<B32)(hr:RdT w 167 A (u32s xs))(hn:xs.length<=1073741824)(hs:s<32):
  Calls Tryz.prog 197 #[.slice A xs.length c,.int .i64 s] w fun e w'=>∃(g:Nat) (ls:List Nat),e=.returned (.slice (some ⟨g,0,none⟩) xs.length xs.length)/\Row w' g ls/\ls.length=xs.length/\(∀d∈ls,d<B32)/\w.heap.size<=g/\Ext w w'/\Dig.val B32 ls=Dig.val B32 xs/2^s:=by
 have qz:=run_make_row' (P:=Tryz.prog) 31 167 (.int .u32 0) 4 Tryz.underlying31 Tryz.info167 rfl .i64 .i64 xs.length (by omega) (by omega)
 go_enter Tryz.func197,Tryz.ntmps197
 go_wp2;clear qz
 go_loopw [6,7,8] (fun hi it _ wr=>∃(k:Nat) (ls:List Nat),k<=xs.length/\it=.int .i64 (k-1)/\hi=.int .u32 ((xs[k]?.getD 0:Nat):Int)/\ls.length=xs.length/\(∀d∈ls,d<B32)/\
  Dig.val B32 (ls.drop k)=Dig.val B32 (xs.drop k)/2^s/\Row wr w.heap.size ls/\Ext w wr) (fun _ i _ _=>(intOf i+1).toNat)
 case atStart=>
  refine⟨xs.length,List.replicate xs.length 0,yX _,rfl,by simp,by simp,fun d hd=>?_,?_,Row.made _ _ rfl,(Ext.refl _).alloc _⟩
  ·have:=uF hd;subst this;exact jzm
  ·rw [List.drop_of_length_le (yX _),List.drop_of_length_le (by simp)];simp [Dig.val]
 case round=>
  obtain⟨k,ls,hk,rfl,rfl,qo,qm,qh,qe,hx⟩:=hrel;have HV:=Hx qh;have qj:=Hx qo;clear qh qo;by_cases qn:0<k
  ·obtain⟨b1,o1,rfl,qw,qa⟩:=hr.rd.u32 (k:=k-1) (by omega)
   have qB:wr.cell? ⟨b1,o1+(k-1),none⟩=_:=(hx.cell (p:=⟨b1,o1+(k-1),none⟩) qw).trans (qa (k-1) (by omega));have qA:b1≠w.heap.size:=(by omega);have qD:=qe.cell (i:=k-1) (by have:=qj.out;omega);have qC:=qe.frozen (k-1);have qp:=jzj hxs (k-1);have qy:=jzj hxs k;have qg:=drop_mod xs hxs k;rw [jzo]at qp qy;have qi:=Dig.val_drop' B32 xs (k-1) (by omega);simp only [List.getD]at qi;rw [Nat.sub_add_cancel qn]at qi;generalize hxe:xs[k-1]?.getD 0=x at*;generalize xs[k]?.getD 0=hi at*;generalize ls[k-1]?.getD 0=dk at*;have HX:=Hx hxe;have qk:=Dig.shr_step (D:=Dig.val B32 (xs.drop k)) (Nat.pow_pos (by decide)) (jzem s hs) (Nat.pow_pos (by decide)) (show x<B32 by rw [jzo];exact qp);rw [qg, <-qi]at qk;have qx:=Hx qk;have qE:=jzjk hi x (by omega) (by omega) (by omega) (by omega);have qf:((hi:Int)*4294967296+x)/2^s%4294967296=(((hi*B32+x)/2^s%B32:Nat):Int):=by
    rw [jzo,Int.natCast_emod,Int.natCast_ediv,Int.natCast_add,Int.natCast_mul,Int.natCast_pow];rfl
   have HC:=Hx qf;clear hxe qa qk qi qg qf;go_wp2
   go_roundw
   case rel=>
    refine⟨k-1,ls.set (k-1) ((hi*B32+x)/2^s%B32),by omega,by go_num,by rw [HX.out],by rw [yV];exact qj.out,Dig.set_lt qm (xT _ jzm),?_,?_,Below.setCell hx (by simp) _⟩
    ·rw [Dig.drop_set_self _ _ _ (by have:=qj.out;omega),Nat.sub_add_cancel qn,Dig.val_cons,HV.out,qx.out]
    ·rw [HC.out];exact qe.set_ _ _
   case measure=>simp [intOf];omega
  ·have qt:k=0:=by omega
   subst qt;go_wp2;go_ret;have:=HV.out;rw [List.drop_zero,List.drop_zero]at this;exact⟨w.heap.size,ls,rfl,qe,qj.out,qm,yX _,hx,this⟩
theorem jzg7(a un b:List Nat)(i:Nat)(h:i<un.length):(a++(un++b))[a.length+i]?.getD 0=un[i]?.getD 0:=by
 rw [yS (by omega),Nat.add_sub_cancel_left,yR h]
theorem jzg8(a un b:List Nat)(i d:Nat)(h:i<un.length):(a++(un++b)).set (a.length+i) d=a++(un.set i d++b):=by
 rw [List.set_append_right _ _ (by omega),Nat.add_sub_cancel_left,List.set_append_left _ _ h]
theorem jzg9(y q pc:Nat)(hy:y<4294967296)(hq:q<4294967296)(hp:pc<4294967296):
  (y:Int)*q<=18446744065119617025/\0<=(y:Int)*q/\((pc:Int)+y*q)/4294967296=(((pc+y*q)/B32:Nat):Int)/\((pc:Int)+y*q)%4294967296=(((pc+y*q)%B32:Nat):Int)/\(pc+y*q)/B32<4294967296/\(pc+y*q)%B32<4294967296:=by
 have h1:y*q<=4294967295*4294967295:=Nat.mul_le_mul (by omega) (by omega);have e:(y:Int)*q=((y*q:Nat):Int):=(by rw [Int.natCast_mul]);rw [e,jzo];generalize y*q=P at*;refine⟨by omega,by omega,by omega,by omega,by omega,by omega⟩
theorem jzen{a w:World}{g:Nat}(h:a.grownBy w (some g))(k:Nat)(u:Value):a.grownBy (w.setCell ⟨g,k,none⟩ u) (some g):=h.trans (jze w g k u)
theorem jzha(x y cr:Nat)(hx:x<4294967296)(hy:y<4294967296)(hc:cr<=1):
  ∃d cr':Nat,((x:Int)+y+cr)%4294967296=d/\((x:Int)+y+cr)/4294967296=cr'/\x+y+cr=d+B32*cr'/\d<B32/\cr'<=1:=by
 refine⟨(((x:Int)+y+cr)%4294967296).toNat,(((x:Int)+y+cr)/4294967296).toNat,by omega,by omega,?_,?_,by omega⟩
 ·rw [jzo];omega
 ·rw [jzo];omega
theorem back_step{B i x y cr d cr':Nat}{uo un vs:List Nat}(hv:i<vs.length)(hu:i<uo.length)(hn:i<un.length)(ey:y=vs[i]?.getD 0)(ex:x=uo[i]?.getD 0)(hd:x+y+cr=d+B*cr')
  (h:Dig.val B (un.take i)+B^i*cr=Dig.val B (uo.take i)+Dig.val B (vs.take i)):
  Dig.val B ((un.set i d).take (i+1))+B^(i+1)*cr'=Dig.val B (uo.take (i+1))+Dig.val B (vs.take (i+1)):=by
 rw [Dig.val_take_set B un i _ hn,Dig.val_take_succ' B vs i hv,Dig.val_take_succ' B uo i hu];simp only [List.getD];rw [<-ey, <-ex,vD];have e3:B^i*x+B^i*y+B^i*cr=B^i*d+B^i*B*cr':=by
  rw [<-Nat.mul_add, <-Nat.mul_add,hd,Nat.mul_add,Nat.mul_assoc]
 omega
theorem back_top{B x cr d cr' n V:Nat}{uo un:List Nat}(hu:n+1=uo.length)(hn:n<un.length)(hl:un.length=uo.length)(ex:x=uo[n]?.getD 0)(hd:x+cr=d+B*cr')
  (h:Dig.val B (un.take n)+B^n*cr=Dig.val B (uo.take n)+V):Dig.val B (un.set n d)+B^(n+1)*cr'=Dig.val B uo+V:=by
 have h1:=Dig.val_take_set B un n d hn;rw [yU (by rw [yV];omega)]at h1;have h2:=Dig.val_take_succ' B uo n (by omega);rw [yU (by omega)]at h2;simp only [List.getD]at h2;rw [h1,h2, <-ex,vD];have e3:B^n*x+B^n*cr=B^n*d+B^n*B*cr':=by
  rw [<-Nat.mul_add,hd,Nat.mul_add,Nat.mul_assoc]
 omega
theorem jzj4(g:Nat)(a uo b vs:List Nat)(AV:Option Addr)(cv q:Nat)(w:World)(hrow:Row w g (a++(uo++b)))(hul:uo.length=vs.length+1)(hal:a.length<=1073741824)(huo:∀d∈uo,d<B32)(hvs:∀d∈vs,d<B32)(hv:RdT w 167 AV (u32s vs))(hvg:vs≠ []->∀ad,AV=some ad->ad.block≠g)
  (hcv:vs.length<=cv) (hn:vs.length<=1073741824) (hq:q<4294967296) (hV:0<Dig.val B32 vs) (hq1:Dig.val B32 uo/Dig.val B32 vs<=q) (hq2:q<=Dig.val B32 uo/Dig.val B32 vs+1):
  Calls Tryz.prog 196 #[.slice (some ⟨g,a.length,none⟩) (vs.length+1) (vs.length+1),.slice AV vs.length cv,.int .u32 (q:Int)] w fun e w'=>e=.returned (.int .u32 ((Dig.val B32 uo/Dig.val B32 vs:Nat):Int))/\
   ∃un,Row w' g (a++(un++b))/\un.length=vs.length+1/\(∀d∈un,d<B32)/\Dig.val B32 un=Dig.val B32 uo%Dig.val B32 vs/\w.grownBy w' (some g):=by
 have q2:=Hx hq1;have q9:=Hx hq2;have qI:=Hx hul;have qT:=Hx hV;clear hq1 hq2 hul hV
 go_enter Tryz.func196,Tryz.ntmps196
 go_wp2
 go_loopw [8,9,10,16] (fun pt bt _ it wr=>∃(i pc br:Nat) (un:List Nat),i<=vs.length/\it=.int .i64 i/\pt=.int .u64 pc/\bt=.int .u32 br/\pc<4294967296/\br<=1/\un.length=vs.length+1/\(∀d∈un,d<B32)/\(∀k,i<=k->un[k]?.getD 0=uo[k]?.getD 0)/\
  Dig.val B32 (un.take i)+q*Dig.val B32 (vs.take i)=Dig.val B32 (uo.take i)+B32^i*(pc+br)/\Row wr g (a++(un++b))/\w.grownBy wr (some g)) (fun _ _ _ i _=>vs.length-(intOf i).toNat)
 case atStart=>exact⟨0,0,0,uo,yZ _,rfl,rfl,rfl,by decide,by decide,qI.out,huo,fun _ _=>rfl,by simp [Dig.val],hrow,World.grownBy.refl w _⟩
 case round=>
  obtain⟨i,pc,br,un,hi,rfl,rfl,rfl,qU,q0,qm,qh,qf,qn,qg,qj⟩:=hrel;have HV:=Hx qn;have qa:=Hx qm;have qt:=Hx qf;clear qn qm qf;by_cases qo:i<vs.length
  ·obtain⟨b2,o2,rfl,qP,qe⟩:=hv.rd.u32 (k:=i) qo
   have qL:b2≠g:=hvg (by rintro rfl;simp at qo) _ rfl;have q3:wr.cell? ⟨b2,o2+i,none⟩=_:=(World.cell?_of_block (a:=⟨b2,o2+i,none⟩) (qj.block b2 qP (fun e=>qL (by injection e)))).trans (qe i qo);have qE:=jzj hvs i;rw [jzo]at qE;generalize hye:vs[i]?.getD 0=y at*;have HY:=Hx hye;clear hye qe;have qp:=qg.cell (i:=a.length+i) (by have:=qa.out;simp;omega);have qK:=qg.frozen (a.length+i);rw [jzg7 a un b i (by have:=qa.out;omega),qt.out i (yX _)]at qp;have qk:=jzj huo i;rw [jzo]at qk;generalize hxe:uo[i]?.getD 0=x at*;have HX:=Hx hxe;clear hxe;obtain⟨t1,t2,t3,t4,t5,t6⟩:=jzg9 y q pc qE hq qU;have T3:=Hx t3;have T4:=Hx t4;clear t3 t4
   go_wp2_with fail
   rw [T4.out];refine(jzc1 _ _ _ _ (by omega) (by omega) (by omega) (by omega) (by omega) (by omega)).mono ?_;rintro e w' ⟨rfl,rfl⟩;obtain⟨d,qJ,ed,eb,qi,qw,qA⟩:=jzc2 x ((pc+y*q)%B32) br qk t6 q0;have EB:=Hx eb;have qQ:=Hx qi;rw [ed];clear ed qi;rw [EB.out];clear eb;go_wp2
   go_roundw
   case rel=>
    rw [T3.out];refine⟨i+1,(pc+y*q)/B32,qJ,un.set i d,by omega,by go_num,rfl,rfl,t5,qA,by rw [yV];exact qa.out,Dig.set_lt qh qw,fun k hk=>?_,?_,?_,jzen qj _ _⟩
    ·rw [vN (by omega)];exact qt.out k (by omega)
    ·exact Dig.red_step qo (by have:=qI.out;omega) (by have:=qa.out;omega) HY.out.symm HX.out.symm qQ.out.symm HV.out
    ·rw [<-jzg8 a un b i d (by have:=qa.out;omega)];exact qg.set_ _ _
   case measure=>simp [intOf];omega
  ·have qR:i=vs.length:=by omega
   subst qR;rw [yU (yX _)]at HV;have qp:=qg.cell (i:=a.length+vs.length) (by have:=qa.out;simp;omega);have qK:=qg.frozen (a.length+vs.length);rw [jzg7 a un b vs.length (by have:=qa.out;omega),qt.out vs.length (yX _)]at qp;have qk:=jzj huo vs.length;rw [jzo]at qk;generalize hxe:uo[vs.length]?.getD 0=x at*;have HX:=Hx hxe;clear hxe
   go_wp2_with fail
   refine(jzc1 _ _ _ _ (by omega) (by omega) (by omega) (by omega) (by omega) (by omega)).mono ?_;rintro e w' ⟨rfl,rfl⟩;obtain⟨d,qJ,ed,eb,qi,qw,qA⟩:=jzc2 x pc br qk qU q0;have HT:=Hx (Dig.red_top (B:=B32) (q:=q) (V:=Dig.val B32 vs) qI.out.symm (by have:=qa.out;omega) (qa.out.trans qI.out.symm) HX.out.symm qi.symm HV.out);rw [ed,eb];clear ed qi eb HV;have qB:Row (wr.setCell ⟨g,a.length+vs.length,none⟩ (.int .u32 (d:Int))) g (a++(un.set vs.length d++b)):=by
    rw [<-jzg8 a un b vs.length d (by have:=qa.out;omega)];exact qg.set_ _ _
   have qC:=jzen qj (a.length+vs.length) (.int .u32 (d:Int));have qH:∀e∈un.set vs.length d,e<B32:=Dig.set_lt qh qw;have qG:(un.set vs.length d).length=vs.length+1:=(by rw [yV];exact qa.out);have qW:=Hx qB;have qZ:=Hx qC;have qD:=Hx qH;have qz:=Hx qG;clear qB qC qH qG qa qt qh;generalize un.set vs.length d=un2 at*;have q5:qJ=0\/qJ=1:=(by omega);rcases q5 with rfl|rfl
   ·obtain⟨r1,r2⟩:=Dig.red_none qT.out (by have:=HT.out;rw [Nat.mul_zero,Nat.add_zero]at this;exact this) q2.out
    have R1:=Hx r1;have R2:=Hx r2;clear r1 r2;go_wp2;go_ret;exact⟨by rw [<-R1.out];rfl,un2,qW.out,qz.out,qD.out,R2.out,qZ.out⟩
   ·clear qg qj HX
    rw [Int.natCast_one];go_wp2;clear qp qK;generalize wr.setCell ⟨g,a.length+vs.length,none⟩ (.int .u32 (d:Int))=w2 at*
    go_loopw [11,12,64] (fun ct _ it wr=>∃(i cr:Nat) (un:List Nat),i<=vs.length/\it=.int .i64 i/\ct=.int .u32 cr/\cr<=1/\un.length=vs.length+1/\(∀d∈un,d<B32)/\(∀k,i<=k->un[k]?.getD 0=un2[k]?.getD 0)/\
     Dig.val B32 (un.take i)+B32^i*cr=Dig.val B32 (un2.take i)+Dig.val B32 (vs.take i)/\Row wr g (a++(un++b))/\w.grownBy wr (some g)) (fun _ _ i _=>vs.length-(intOf i).toNat)
    case atStart=>exact⟨0,0,un2,yZ _,rfl,rfl,by decide,qz.out,qD.out,fun _ _=>rfl,by simp [Dig.val],qW.out,qZ.out⟩
    case round=>
     obtain⟨i,cr,un,hi,rfl,rfl,qY,qm,qh,qf,qn,qg,qj⟩:=hrel;have HV:=Hx qn;have qa:=Hx qm;have qt:=Hx qf;clear qn qm qf;by_cases qo:i<vs.length
     ·obtain⟨b2,o2,rfl,qP,qe⟩:=hv.rd.u32 (k:=i) qo
      have qL:b2≠g:=hvg (by rintro rfl;simp at qo) _ rfl;have q3:wr.cell? ⟨b2,o2+i,none⟩=_:=(World.cell?_of_block (a:=⟨b2,o2+i,none⟩) (qj.block b2 qP (fun e=>qL (by injection e)))).trans (qe i qo);have qE:=jzj hvs i;rw [jzo]at qE;generalize hye:vs[i]?.getD 0=y at*;have HY:=Hx hye;clear hye qe;have qp:=qg.cell (i:=a.length+i) (by have:=qa.out;simp;omega);have qK:=qg.frozen (a.length+i);rw [jzg7 a un b i (by have:=qa.out;omega),qt.out i (yX _)]at qp;have qk:=jzj qD.out i;rw [jzo]at qk;generalize hxe:un2[i]?.getD 0=x at*;have HX:=Hx hxe;clear hxe;obtain⟨d2,qV,ed,eb,qi,qw,qA⟩:=jzha x y cr qk qE qY;have qQ:=Hx qi;have ED:=Hx ed;have EB:=Hx eb;clear qi ed eb;have ve:(i:Int)<(vs.length:Int)+1:=(by omega);have vc:(i:Int)<(vs.length:Int):=(by omega);go_wp2
      go_region_with ((go_at_call 200;refine(jzb5 _ _ _ _ (by omega) (by omega) (by omega) (by omega) (by omega) (by omega)).mono ?_;rintro e w' ⟨rfl,rfl⟩))
      all_goals
       go_wp2
       go_roundw
       case rel=>
        rw [ED.out,EB.out];refine⟨i+1,qV,un.set i d2,by omega,by go_num,rfl,qA,by rw [yV];exact qa.out,Dig.set_lt qh qw,fun k hk=>?_,?_,?_,jzen (g:=g) (w:=wr.drew) ⟨qj.os,qj.tape,qj.output,qj.size,qj.block⟩ _ _⟩
        ·rw [vN (by omega)];exact qt.out k (by omega)
        ·exact back_step qo (by have:=qz.out;omega) (by have:=qa.out;omega) HY.out.symm HX.out.symm qQ.out HV.out
        ·rw [<-jzg8 a un b i d2 (by have:=qa.out;omega)];exact(qg.drewN 1).set_ _ _
       case measure=>simp [intOf];omega
     ·have qR:i=vs.length:=by omega
      subst qR;rw [yU (yX _)]at HV;have qp:=qg.cell (i:=a.length+vs.length) (by have:=qa.out;simp;omega);have qK:=qg.frozen (a.length+vs.length);rw [jzg7 a un b vs.length (by have:=qa.out;omega),qt.out vs.length (yX _)]at qp;have qk:=jzj qD.out vs.length;rw [jzo]at qk;generalize hxe:un2[vs.length]?.getD 0=x at*;have HX:=Hx hxe;clear hxe;obtain⟨d2,qV,ed,eb,qi,qw,qA⟩:=jzha x 0 cr qk (by omega) qY;rw [Int.natCast_zero,Int.add_zero]at ed;rw [Nat.add_zero]at qi;have qX:=Hx (back_top (B:=B32) (V:=Dig.val B32 vs) qz.out.symm (by have:=qa.out;omega) (qa.out.trans qz.out.symm) HX.out.symm qi HV.out);have ED:=Hx ed;have qy:∀e∈un.set vs.length d2,e<B32:=Dig.set_lt qh qw;have qx:(un.set vs.length d2).length=vs.length+1:=(by rw [yV];exact qa.out);have qO:=Dig.val_lt jzm qy;rw [qx]at qO;have qM:=Dig.val_lt jzm qD.out;rw [qz.out]at qM;have qN:=Dig.red_back qT.out qM qO (by have:=HT.out;rw [Nat.mul_one]at this;exact this) qX.out qA q9.out;have qS:=Hx qN;have vd:1<=q:=qN.1;have qF:Row (wr.setCell ⟨g,a.length+vs.length,none⟩ (.int .u32 (d2:Int))) g (a++(un.set vs.length d2++b)):=by
       rw [<-jzg8 a un b vs.length d2 (by have:=qa.out;omega)];exact qg.set_ _ _
      have va:=Hx qF;have q7:=Hx qy;have q6:=Hx qx;have q8:=Hx (jzen qj (a.length+vs.length) (.int .u32 (d2:Int)));clear ed eb qi qN qM qO qy qx qF qX HV;have q4:(vs.length:Int)<(vs.length:Int)+1:=(by omega);go_wp2;go_ret;rw [ED.out];have q1:((q:Int)-1)=((q-1:Nat):Int):=(by omega);exact⟨by rw [<-qS.out.2.1, <-q1];rfl,_,va.out,q6.out,q7.out,qS.out.2.2,q8.out⟩
theorem jzfq:∀(f x:Nat),x<2^f->x<2^Lib.bitLenAux f x/\(x≠0->2^Lib.bitLenAux f x<=2*x)
 |0,x,h=>by
  have:x=0:=(by simpa using h);subst this;exact⟨by decide,fun h=>absurd rfl h⟩
 |f+1,x,h=>by
  unfold Lib.bitLenAux
  split
  ·rename_i e;subst e;exact⟨by decide,fun h=>absurd rfl h⟩
  ·rename_i hx
   have ih:=jzfq f (x/2) (by rw [vD]at h;omega);rw [Nat.add_comm,vD];refine⟨by omega,fun _=>?_⟩;by_cases h2:x/2=0
   ·have:Lib.bitLenAux f (x/2)=0:=by
     rw [h2];cases f with
     |zero=>rfl
     |succ f=>simp [Lib.bitLenAux]
    rw [this];omega
   ·have:=ih.2 h2
    omega
theorem jzj5(t:Nat)(h0:0<t)(h1:t<4294967296):∃s:Nat,s<32/\(32-(Lib.bitLen t:Int))=(s:Int)/\(t+1)*2^s<=B32/\B32<=2*(t*2^s):=by
 obtain⟨a1,a2⟩:=jzfq 64 t (by omega);change t<2^Lib.bitLen t at a1;change t≠0->2^Lib.bitLen t<=2*t at a2;have a3:=a2 (by omega);have hl:Lib.bitLen t<=32:=by
  rcases Nat.lt_or_ge 32 (Lib.bitLen t)with h|h
  ·have:=Nat.pow_le_pow_right (n:=2) (by decide) (show 33<=Lib.bitLen t from h)
   have e:(2:Nat)^33=8589934592:=(by decide);omega
  ·exact h
 have qa:1<=Lib.bitLen t:=by
  rcases Nat.eq_zero_or_pos (Lib.bitLen t)with h|h
  ·rw [h]at a1;omega
  ·exact h
 generalize Lib.bitLen t=l at*;have e:2^l*2^(32-l)=B32:=(by rw [<-Nat.pow_add,Nat.add_sub_cancel' hl];rfl);refine⟨32-l,by omega,by omega,?_,?_⟩
 ·rw [<-e];exact xS _ a1
 ·rw [<-e, <-Nat.mul_assoc];exact xS _ a3
structure DivSt(w w':World)(gu gv gq:Nat)(vs:List Nat)(nq A k:Nat)(du dq:List Nat):Prop where
 rowu:Row w' gu du
 rowq:Row w' gq dq
 rowv:Row w' gv vs
 ulen:du.length=nq+vs.length
 qlen:dq.length=nq
 ult:∀d∈du,d<B32
 qlt:∀d∈dq,d<B32
 kle:k<=nq
 val:A=Dig.val B32 (dq.drop k)*B32^k*Dig.val B32 vs+Dig.val B32 du
 low:Dig.val B32 (du.drop k)<Dig.val B32 vs
 r4:Blk w' w.heap.size 33 #[.slice none 0 0]
 r5:Blk w' (w.heap.size+1) 33 #[.slice none 0 0]
 ext:Ext w w'
theorem jzeo(A1 A2:Option Addr)(n1 c1 n2 c2 a b:Nat)(w:World)(h1:NatR w A1 n1 c1 a)(h2:NatR w A2 n2 c2 b)(hn1:n1<=1073741824)(hn2:2<=n2)(hab:b<=a):
  Calls Tryz.prog 157 #[.slice A1 n1 c1,.slice A2 n2 c2] w fun e w'=>∃(A:Option Addr) (n c:Nat) (A':Option Addr) (n' c':Nat),e=.returned (.tuple #[.agg #[.slice A n c],.agg #[.slice A' n' c']])/\NatR w' A n c (a/b)/\NatR w' A' n' c' (a%b)/\Ext w w':=by
 have zS:=NatR.len_le h2 h1 hab;obtain⟨xs,rfl,zp,vu,zk,vJ⟩:=h1;obtain⟨ys,rfl,vK,qM,zn,vg⟩:=h2;obtain⟨n2,qp⟩:∃n2,ys.length=n2+1:=⟨ys.length-1,by omega⟩;obtain⟨mq,vW⟩:∃mq,xs.length+1=mq+ys.length:=⟨xs.length+1-ys.length,by omega⟩;have zR:mq<=1073741825:=(by omega);obtain⟨b2,o2,rfl,qB,qk⟩:=vg.rd.u32 (k:=n2) (by omega);have zj:=qk n2 (by omega);have vx:=jzj qM.lt n2;rw [jzo]at vx;have zi:0<ys[n2]?.getD 0:=by
  have:=qM.top;rw [List.getLast?_eq_getElem?,qp,Nat.add_sub_cancel,yG (by omega)]at this;rw [yG (by omega)];simp at this⊢;omega
 obtain⟨s,hs,v4,vt,q7⟩:=jzj5 (ys[n2]?.getD 0) zi vx;obtain⟨zq,v0⟩:=Dig.norm jzm qM.lt qp vt q7;have qR:2^s<=2147483648:=Nat.pow_le_pow_right (n:=2) (by decide) (show s<=31 by omega);have zo:=run_make_row' (P:=Tryz.prog) 31 167 (.int .u32 0) 4 Tryz.underlying31 Tryz.info167 rfl .i64 .i64 mq (by omega) (by omega);rw [show((mq:Nat):Int)=(xs.length:Int)-ys.length+1 by omega]at zo;have qf:∀W,Ext w W->_:=fun W hW=>shl_any A1 c1 s (xs.length+1) xs W zp vu.lt (vJ.keep hW) hn1 hs (.inr rfl);have qj:∀W,Ext w W->_:=fun W hW=>shl_any (some ⟨b2,o2,none⟩) c2 s ys.length ys W vK qM.lt (vg.keep hW) (by omega) hs (.inl rfl);simp only [Int.natCast_add,Int.natCast_one]at qf;have C1:=Hx (qf);have C2:=Hx (qj);have ze:=Hx (v4);have q5:=Hx (zk);have qQ:=Hx (zn);have zg:=Hx (zq);have vi:=Hx (v0);have qy:=Hx (qR);have qO:=Hx (qp);have qw:=Hx (vW);have zm:=Hx vu.lt;clear qf qj v4 zk zn zq v0 qR qp vW vt q7 qk vJ vg vu qM;generalize hte:ys[n2]?.getD 0=tp at*;clear hte;obtain⟨b4,b5,e0⟩:=boxes2 w #[.slice none 0 0] 33 #[.slice none 0 0] 33;have q9:((ys.length:Int)-1)=(n2:Int):=(by have:=qO.out;omega);have vl:((w.alloc (.cells #[.slice none 0 0] 33)).alloc (.cells #[.slice none 0 0] 33)).cell? ⟨b2,o2+n2,none⟩=some (.int .u32 (tp:Int)):=(e0.cell (p:=⟨b2,o2+n2,none⟩) qB).trans zj;have vd:(n2:Int)<(ys.length:Int):=(by omega);clear zj
 go_enter Tryz.func157,Tryz.ntmps157
 go_wp2_with fail
 refine(Tryz.bits_LeadingZeros32 _ _ (by omega) (by omega)).mono ?_;rintro e w' ⟨rfl,rfl⟩;rw [xL,ze.out];clear vl q9 vd
 go_wp2_with fail
 refine(C1.out _ e0).mono ?_;rintro e w1 ⟨gu,us,rfl,rowu,ulen,ult,za,qX,qP⟩;have vj:gu<w1.heap.size:=rowu.lt;have zP:w.heap.size+2<=gu:=(by have:=za;simp at this;omega);have B4:=Hx (b4.keep qX);have B5:=Hx (b5.keep qX);have E1:=Hx (e0.tr qX);have RU:=Hx rowu;have UL:=Hx ulen;have UT:=Hx ult;have UV:=Hx qP;clear b4 b5 e0 qX rowu ulen ult qP C1
 go_wp2_with fail
 refine(C2.out _ E1.out).mono ?_;rintro e w2 ⟨gv,vs,rfl,rowv,qK,v3,zI,qS,qE⟩;have B4:=Hx (B4.out.keep qS);have B5:=Hx (B5.out.keep qS);have E2:=Hx (E1.out.tr qS);have RU:=Hx (RU.out.keep qS);have RV:=Hx rowv;have VL:=Hx qK;have VT:=Hx v3;have VV:=Hx qE;have va:=RU.out.lt;have vF:=rowv.lt;clear qS rowv qK v3 qE C2 E1;go_wp2;generalize ys.length=yn at*;obtain rfl:=VL.out;have vp:=Hx (show xs.length=mq+n2 by have h1:=qw.out;have h2:=qO.out;omega);have q4:Dig.val B32 vs=b*2^s:=by
  rw [VV.out,qQ.out,Nat.mod_eq_of_lt];rw [qO.out, <-qQ.out];exact zg.out
 have vh:0<2^s:=Nat.pow_pos (by decide);have vI:a<B32^(mq+n2):=(by rw [<-q5.out, <-vp.out];exact Dig.val_lt jzm zm.out);have vc:Dig.val B32 us=a*2^s:=by
  rw [UV.out,q5.out,Nat.mod_eq_of_lt];rw [vp.out,vD];exact Nat.mul_lt_mul_of_lt_of_le vI (yY qy.out (by decide)) jzm
 have qg:Dig.val B32 (us.drop mq)<Dig.val B32 vs:=Dig.low_start jzm (by rw [UL.out];have:=qw.out;omega) vc vI (by rw [q4, <-qQ.out];exact vi.out) (by have:=qy.out;rw [jzo];omega) vh;have zf:=Hx (show DivSt w (w2.alloc (.cells (madeCells #[.int .u32 0] mq) 167)) gu gv w2.heap.size vs mq (a*2^s) mq us (List.replicate mq 0)from
  ⟨RU.out.alloc _,Row.made _ _ rfl,RV.out.alloc _,by rw [UL.out];exact qw.out,by simp,UT.out,fun d hd=>by have:=uF hd;subst this;exact jzm,yX _,
   by rw [List.drop_of_length_le (by simp),Dig.val_nil,Nat.zero_mul,Nat.zero_mul,Nat.zero_add];exact vc.symm,qg,B4.out.alloc _,B5.out.alloc _,E2.out.alloc _⟩)
 have vR:gu≠gv:=(by omega);have q8:gu≠w2.heap.size/\gv≠w2.heap.size:=(by omega);have zW:w.heap.size+2<=w2.heap.size:=(by omega);have zF:w.heap.size+2<=gv:=(by omega);have zd:vs.length<=1073741824:=(by omega);have vV:=Hx (show a*2^s/Dig.val B32 vs=a/b/\a*2^s%Dig.val B32 vs=a%b*2^s by
  rw [q4,Nat.mul_div_mul_right _ _ vh,Nat.mul_mod_mul_right];exact⟨rfl,rfl⟩)
 have zD:mq+vs.length<=1073741825:=(by have:=qw.out;omega);have qC:=Hx (show B32^vs.length<=2*Dig.val B32 vs by rw [q4,qO.out, <-qQ.out];exact vi.out);clear zo B4 B5 RU RV UL UT UV E2 vc vI qg va vF VL q4 VV zg vi q5 qQ qy zm ze vp za vj zI zp vK hn1 zS qB zi vx hab qO;generalize a*2^s=AA at*;generalize hgen:w2.heap.size=gq at*;clear hgen;generalize w2.alloc (.cells (madeCells #[.int .u32 0] mq) 167)=w3 at*
 go_loopg [11,12,13,14] mq (fun k jt _ _ _ wr=>∃(m:Nat) (du dq:List Nat),m=k/\jt=.int .i64 (m-1)/\DivSt w wr gu gv gq vs mq AA m du dq)
 case atStart=>exact⟨mq,us,_,rfl,rfl,zf.out⟩
 case round=>
  clear zf;obtain⟨k,du,dq,rfl,rfl,qa⟩:=hrel;have z5:=qa.kle;by_cases z6:0<k
  ·obtain⟨j,rfl⟩:∃j,k=j+1:=⟨k-1,by omega⟩
   rw [show(((j+1:Nat):Int)-1)=(j:Int) by omega];obtain⟨n,hn⟩:∃n,vs.length=n+2:=⟨vs.length-2,by omega⟩;have qZ:=qa.ulen;have v9:=qa.qlen;have z2:=qa.rowu.cell (i:=j+vs.length) (by omega);have zJ:=qa.rowu.cell (i:=j+vs.length-1) (by omega);have z8:=qa.rowu.cell (i:=j+vs.length-2) (by omega);have xc:=qa.rowv.cell (i:=vs.length-1) (by omega);have xd:=qa.rowv.cell (i:=vs.length-2) (by omega);have zy:=jzj qa.ult (j+vs.length);have vO:=jzj qa.ult (j+vs.length-1);have vZ:=jzj qa.ult (j+vs.length-2);have zZ:=jzj VT.out (vs.length-1);have vk:=jzj VT.out (vs.length-2);obtain⟨wz,ww,q1,q2,vq,zu,qL⟩:=Dig.digit_facts (j:=j) (by decide) hn2 qa.ult VT.out (by omega) qa.low qC.out;have hG:Dig.guess B32 (du[j+vs.length]?.getD 0) (du[j+vs.length-1]?.getD 0) (du[j+vs.length-2]?.getD 0) (vs[vs.length-1]?.getD 0) (vs[vs.length-2]?.getD 0)<=4294967295:=Nat.min_le_left _ _;generalize hgG:Dig.guess B32 (du[j+vs.length]?.getD 0) (du[j+vs.length-1]?.getD 0) (du[j+vs.length-2]?.getD 0) (vs[vs.length-1]?.getD 0) (vs[vs.length-2]?.getD 0)=G at*;generalize du[j+vs.length]?.getD 0=u0 at*;generalize du[j+vs.length-1]?.getD 0=u1 at*;generalize du[j+vs.length-2]?.getD 0=u2 at*;generalize vs[vs.length-1]?.getD 0=v1 at*;generalize vs[vs.length-2]?.getD 0=v2 at*;have GG:=Hx hgG;have WZ:=Hx wz;have WW:=Hx ww;have Q1:=Hx q1;have Q2:=Hx q2;have V0:=Hx qL;have DS:=Hx qa;have qT:=Hx qZ;have ve:=Hx v9;rw [jzo]at zy vO vZ zZ vk zu;clear hgG wz ww q1 q2 qL qa qZ v9 n hn;have vo:2147483648<=v1:=(by omega);have vT:=jzjk u0 u1 (by omega) (by omega) (by omega) (by omega);have j1:((j:Int)+vs.length).toNat=j+vs.length:=(by omega);have j2:((j:Int)+vs.length-1).toNat=j+vs.length-1:=(by omega);have j3:(j:Int)+vs.length<(xs.length:Int)+1:=(by have:=qw.out;omega);have j4:IntKind.i64.wrap ((j:Int)+vs.length)=(j:Int)+vs.length:=IntWalk.i64_in _ (by omega);have j5:IntKind.i64.wrap ((j:Int)+vs.length-1)=(j:Int)+vs.length-1:=IntWalk.i64_in _ (by omega);have j6:(0:Int)<=(j:Int)+vs.length:=(by omega);have j7:(0:Int)<=(j:Int)+vs.length-1:=(by omega);have j8:(j:Int)+vs.length-1<(xs.length:Int)+1:=(by omega);have j9:(1:Int)<=(j:Int)+vs.length:=(by omega);go_wp2
   go_quiet (fail)
   go_wp2;clear vT j1 j2 j3 j4 j5 j6 j7 j8 j9 z2 zJ;rw [show(u0:Int)*4294967296+u1=((u0*4294967296+u1:Nat):Int) by omega];have zx:u0*4294967296+u1<18446744073709551616:=(by omega);generalize hzz:u0*4294967296+u1=z at*;have vn:=Hx hzz;clear hzz;have zT:z/v1<=z:=Nat.div_le_self _ _;have z7:z%v1<v1:=xT _ (by omega);have ht:(z:Int).tdiv (v1:Int)=((z/v1:Nat):Int):=(by rw [Int.tdiv_eq_ediv_of_nonneg (by omega),Int.natCast_ediv]);have hm:(z:Int).tmod (v1:Int)=((z%v1:Nat):Int):=(by rw [Int.tmod_eq_emod_of_nonneg (by omega),Int.natCast_emod]);have zE:((v1:Int) !=0)=true:=bne_iff_ne.2 (by omega);have v7:=Nat.div_add_mod z v1;have zY:=Hx v7;clear v7;have zH:=Hx (show z/v1=z/v1 from rfl);generalize hQQ:z/v1=qq at*;generalize hRR:z%v1=rr at*;have vU:=Hx hQQ;clear hQQ hRR;have l1:((vs.length:Int)-1).toNat=vs.length-1:=(by omega);have l2:(0:Int)<=(vs.length:Int)-1:=(by omega);have l3:(vs.length:Int)-1<(vs.length:Int):=(by omega);have l4:IntKind.i64.wrap ((vs.length:Int)-1)=(vs.length:Int)-1:=IntWalk.i64_in _ (by omega);have l5:IntKind.u64.wrap (qq:Int)=(qq:Int):=IntWalk.u64_in _ (by omega);have z0:qq<8589934592:=by
    rw [<-vU.out,Nat.div_lt_iff_lt_mul (by omega)];have:8589934592*2147483648<=8589934592*v1:=Nat.mul_le_mul_left _ vo;omega
   have zN:G<=qq:=by
    rw [<-GG.out, <-vU.out, <-vn.out];have:=Dig.guess_start (B:=B32) (u0:=u0) (u1:=u1) (u2:=u2) (v1:=v1) (v2:=v2) (by omega) (by rw [jzo];exact vZ);rw [jzo]at this⊢;exact this
   go_quiet (fail)
   go_upto_block 2 with fail
   clear zT ht hm zE l5 zx l4 l1 l2 l3
   go_cut [13,14] (fun g _ wx=>g=.int .u64 G/\∃m,wx=wr.drewN m)
   case first=>
    have zh:0<v1*B32+v2:=(by have:=Nat.mul_pos (show 0<v1 by omega) jzm;omega);have VB:=Hx zh;clear zh;go_wp2
    go_loopg [13,14] qq (fun k gt rt wi=>∃g r:Nat,g=k/\gt=.int .u64 g/\rt=.int .u64 r/\g*v1+r=z/\G<=g/\r<4294967296/\g<8589934592/\∃m,wi=wr.drewN m)
    case atStart=>exact⟨qq,rr,rfl,rfl,rfl,by rw [vE];exact zY.out,zN,by omega,z0,_,rfl⟩
    case round=>
     obtain⟨g,r,rfl,rfl,rfl,qD,z3,hr,hg,m,rfl⟩:=hrel;have qn:=Hx (show g*v1+r=u0*B32+u1 by rw [qD, <-vn.out,jzo]);clear qD
     go_upto_region 11 with fail
     go_cut [104] (fun b wx=>b=.bool (decide (4294967296<=g\/r*4294967296+u2<g*v2))/\∃m,wx=wr.drewN m)
     case first=>
      by_cases zt:4294967296<=g
      ·have zz:decide ((4294967296:Int)<=(g:Int))=true:=by simp;omega
       go_quiet (fail)
       go_wp2;go_meet;exact⟨by simp [zt],_,World.drewN_drewN _ _ _⟩
      ·have zz:decide ((4294967296:Int)<=(g:Int))=false:=by simp;omega
       obtain⟨p1,p2,_⟩:=jzg9 g v2 0 (by omega) vk (by decide);have p3:IntKind.u64.wrap ((g:Int)*v2)=(g:Int)*v2:=IntWalk.u64_in _ (by omega);have p4:IntKind.u64.wrap ((r:Int)*4294967296)=(r:Int)*4294967296:=IntWalk.u64_in _ (by omega);have vT:=jzjk r u2 (by omega) (by omega) (by omega) (by omega);have k1:((j:Int)+vs.length-2).toNat=j+vs.length-2:=(by omega);have k2:(0:Int)<=(j:Int)+vs.length-2:=(by omega);have k3:(j:Int)+vs.length-2<(xs.length:Int)+1:=(by have:=qw.out;omega);have k4:IntKind.i64.wrap ((j:Int)+vs.length-2)=(j:Int)+vs.length-2:=IntWalk.i64_in _ (by omega);have k5:IntKind.i64.wrap ((j:Int)+vs.length)=(j:Int)+vs.length:=IntWalk.i64_in _ (by omega);have k6:((vs.length:Int)-2).toNat=vs.length-2:=(by omega);have k7:(0:Int)<=(vs.length:Int)-2:=(by omega);have k8:(vs.length:Int)-2<(vs.length:Int):=(by omega);have k9:IntKind.i64.wrap ((vs.length:Int)-2)=(vs.length:Int)-2:=IntWalk.i64_in _ (by omega);have xa:(2:Int)<=(vs.length:Int):=(by omega);have xe:(2:Int)<=(j:Int)+vs.length:=by omega
       go_quiet (fail)
       go_wp2;go_meet;refine⟨?_,_,World.drewN_drewN _ _ _⟩
       congr 1
       rw [decide_eq_decide];have e:(g:Int)*v2=((g*v2:Nat):Int):=(by rw [Int.natCast_mul]);rw [e];omega
     case rest=>
      obtain⟨rfl,m2,rfl⟩:=hcut;by_cases hc:4294967296<=g\/r*4294967296+u2<g*v2
      ·have qH:decide (4294967296<=g\/r*4294967296+u2<g*v2)=true:=yO hc
       have qN:=Dig.guess_more (u2:=u2) (v2:=v2) jzm VB.out qn.out (by rw [jzo];exact hc);rw [GG.out]at qN;have v5:=Hx (show(g-1)*v1+(r+v1)=u0*B32+u1 by
        rw [<-qn.out];have:g*v1=(g-1)*v1+v1:=by
         have e:g=(g-1)+1:=(by omega);rw [e,xP,xQ, <-e]
        omega)
       rw [qH];clear hc qH qn;have xb:1<=g:=(by omega);by_cases hb:4294967296<=r+v1
       ·have vH:=Dig.guess_break (u2:=u2) VB.out v5.out vq (by rw [jzo];exact vO) (by rw [jzo];exact vk) (by rw [jzo];exact hb) (by rw [GG.out];omega)
        rw [GG.out]at vH;have z1:=Hx vH.2;have zQ:decide ((4294967296:Int)<=(r:Int)+v1)=true:=(by simp;omega);clear vH;have HB:=Hx hb;clear hb;go_wp2;go_meet;refine⟨?_,_,rfl⟩;rw [<-z1.out,show((g-1:Nat):Int)=(g:Int)-1 by omega]
       ·have zQ:decide ((4294967296:Int)<=(r:Int)+v1)=false:=by simp;omega
        have HB:=Hx hb;clear hb;go_wp2;have hb:=HB.out
        go_roundg (g-1)
        case measure=>omega
        case rel=>exact⟨g-1,r+v1,rfl,by rw [show((g-1:Nat):Int)=(g:Int)-1 by omega],rfl,by rw [v5.out, <-vn.out,jzo],by omega,by omega,by omega,_,rfl⟩
      ·have qH:decide (4294967296<=g\/r*4294967296+u2<g*v2)=false:=yP hc
       have vG:=Dig.guess_done (u2:=u2) (v2:=v2) VB.out qn.out (by rw [jzo];omega) (by rw [jzo];omega) (by rw [GG.out];exact z3);rw [GG.out]at vG;have zs:=Hx vG;rw [qH];clear hc qH vG;go_wp2;go_meet;exact⟨by rw [zs.out],_,rfl⟩
   case rest=>
    obtain⟨rfl,m,rfl⟩:=hcut;have qi:=jzj4 gu (du.take j) ((du.drop j).take (vs.length+1)) (du.drop (j+vs.length+1)) vs (some ⟨gv,0,none⟩) vs.length G (wr.drewN m) (by rw [<-Dig.split3];exact DS.out.rowu)
     (by rw [xF,List.length_drop];have:=qT.out;omega) (by rw [xF];omega) (fun d hd=>DS.out.ult d (List.mem_of_mem_drop (xM hd))) VT.out DS.out.rowv.rdT (fun _ ad e=>by injection e with e;subst e;exact vR.symm) (yX _) (by omega) (by omega) V0.out Q1.out Q2.out
    rw [show(du.take j).length=j by rw [xF];have:=qT.out;omega]at qi;have HC:=Hx qi;have zB:j+vs.length+1<=xs.length+1:=(by have:=qw.out;omega);clear qi
    go_wp2_with fail
    rw [show j+vs.length+1-j=vs.length+1 by omega];refine HC.out.mono ?_;rintro e w5 ⟨rfl,un,qx,vz,qG,zc,qA⟩;have qz:wr.grownBy w5 (some gu):=⟨qA.os,qA.tape,qA.output,qA.size,qA.block⟩;have qe:∀{gg:Nat} {ty:TypeId} {cs:Array Value},gg≠gu->Blk wr gg ty cs->Blk w5 gg ty cs:=fun hg hb=>(qz.block _ hb.lt (fun e=>hg (by injection e))).trans hb;have qU:Row w5 gq dq:=qe q8.1.symm DS.out.rowq;have cq:=qU.cell (i:=j) (by have:=ve.out;omega);have fq:=qU.frozen j;obtain⟨d1,d2⟩:=Dig.div_step (j:=j) (n:=vs.length) (dq:=dq) rfl (by have:=qT.out;omega) (by have:=ve.out;omega) V0.out DS.out.val WZ.out WW.out vz zc;have qI:Dig.val B32 ((du.drop j).take (vs.length+1))/Dig.val B32 vs<B32:=Nat.lt_of_le_of_lt Q1.out (show G<B32 by rw [jzo];omega);have vY:Ext w w5:=Below.grown DS.out.ext qz DS.out.ext.size (fun k hk=>by injection hk with hk;omega);generalize Dig.val B32 ((du.drop j).take (vs.length+1))/Dig.val B32 vs=Q at*
    have DN:=Hx (show DivSt w (w5.setCell ⟨gq,j,none⟩ (.int .u32 (Q:Int))) gu gv gq vs mq AA j (du.take j++(un++du.drop (j+vs.length+1))) (dq.set j Q)from
     ⟨qx.far (p:=⟨gq,j,none⟩) q8.1 _,qU.set_ j Q,(qe vR.symm DS.out.rowv).far (p:=⟨gq,j,none⟩) q8.2 _,
      by simp only [yQ,xF,List.length_drop,vz];have:=qT.out;omega,by rw [yV];exact ve.out,
      fun d hd=>by
       rcases xY.1 hd with h|h
       ·exact DS.out.ult d (xM h)
       ·rcases xY.1 h with h|h
        ·exact qG d h
        ·exact DS.out.ult d (List.mem_of_mem_drop h),
      Dig.set_lt DS.out.qlt qI,by omega,d1,d2,Blk.far (p:=⟨gq,j,none⟩) (qe (by omega) DS.out.r4) (by simp only;omega) _,Blk.far (p:=⟨gq,j,none⟩) (qe (by omega) DS.out.r5) (by simp only;omega) _,Ext.set_ vY (p:=⟨gq,j,none⟩) (by simp only;omega) _⟩)
    clear qx vz qG zc qA qz qe qU d1 d2 qI vY HC;generalize dq[j]?.getD 0=qo at*;go_wp2
    go_roundg j
    case measure=>omega
    case rel=>exact⟨j,_,_,rfl,rfl,DN.out⟩
  ·have hk:k=0:=by omega
   subst hk;have qt:=qa.val;have qg:=qa.low;rw [List.drop_zero,Nat.pow_zero,Nat.mul_one]at qt;rw [List.drop_zero]at qg;have qL:0<Dig.val B32 vs:=(by omega);have v6:Dig.val B32 dq=a/b:=by
    rw [<-vV.out.1,qt,Nat.add_comm,Nat.add_mul_div_right _ _ qL,Nat.div_eq_of_lt qg,Nat.zero_add]
   have v8:Dig.val B32 du=a%b*2^s:=by
    rw [<-vV.out.2,qt,Nat.add_comm,Nat.add_mul_mod_self_right,Nat.mod_eq_of_lt qg]
   have qZ:=qa.ulen;have vy:=Dig.val_lt jzm VT.out;have vL:Dig.val B32 (du.take vs.length)=a%b*2^s:=by
    have h1:=Dig.val_split' B32 du vs.length (by omega);rcases Nat.eq_zero_or_pos (Dig.val B32 (du.drop vs.length))with e|e
    ·rw [e,Nat.mul_zero,Nat.add_zero]at h1
     rw [<-h1];exact v8
    ·exfalso
     have:=Nat.mul_le_mul_left (B32^vs.length) (show 1<=Dig.val B32 (du.drop vs.length)from e);omega
   have qW:(du.take vs.length).length=vs.length:=(by rw [xF];omega);have q3:∀W,Ext wr W->_:=fun W hW=>shr_any (some ⟨gu,0,none⟩) vs.length s (du.take vs.length) W (by rw [qW];exact yX _) (fun d hd=>qa.ult d (xM hd)) (by rw [jzg2];exact(qa.rowu.rdT.take _).keep hW) (by rw [qW];omega) hs;rw [qW]at q3;rw [vL,Nat.mul_div_cancel _ vh]at q3;have SR:=Hx q3;have DS:=Hx qa;have QD:=Hx v6;have zB:vs.length<=xs.length+1:=(by have:=qw.out;omega);have vt:(0:Int)<=(vs.length:Int):=(by omega);have q7:(vs.length:Int)<=(xs.length:Int)+1:=(by omega);have qh:=qa.r4;have qm:=qa.r5;clear qt qg qL v6 v8 vy vL qW q3 qa qZ;go_wp2;have qh:Blk wr.drew _ _ _:=qh;have qm:Blk wr.drew _ _ _:=qm;have zV:Hid (Ext w wr.drew):=DS.out.ext.drewN 1;have zA:Hid (Ext wr wr.drew):=(Ext.refl wr).drewN 1;have RQ:Hid (Row wr.drew gq dq):=DS.out.rowq;have zb:True:=trivial
   go_region_held3 (fun _=>True) (trivial) (first
    |(go_at_call 102;have _t:=zb;refine(jzbe (some ⟨gq,0,none⟩) mq mq dq _ DS.out.qlen (yX _) (by omega) DS.out.qlt RQ.out.rdT).mono ?_;rintro e w5 ⟨A5,n5,c5,rfl,zv,qV⟩;clear zb;have qh:=qh.keep qV;have qm:=qm.keep qV;have zL:=Hx (zV.out.tr qV);have z4:=Hx (zA.out.tr qV))
    |(go_at_call 197;refine(SR.out _ z4.out).mono ?_;rintro e w6 ⟨g6,zK,rfl,vm,qF,zX,z9,q0,qJ⟩;have qh:=qh.keep q0;have qm:=qm.keep q0;have zO:=Hx (zL.out.tr q0);have zw:=Hx (zv.keep q0);have vw:=Hx qF;have q6:=Hx qJ;clear qF qJ)
    |(go_at_call 102;refine(jzbe (some ⟨g6,0,none⟩) vs.length vs.length zK _ vw.out (yX _) (by omega) zX vm.rdT).mono ?_;rintro e w7 ⟨A7,n7,c7,rfl,zC,qY⟩;have qh:=qh.keep qY;have qm:=qm.keep qY;have zU:=Hx (zO.out.tr qY);have zM:=Hx (zw.out.keep qY);obtain⟨d2,f2⟩:=qh.one;obtain⟨d3,f3⟩:=qm.one))
   go_wp2;have e1:NatR w7 A5 n5 c5 (a/b):=(by have:=zM.out;rw [QD.out]at this;exact this);have e2:NatR w7 A7 n7 c7 (a%b):=(by have:=zC;rw [q6.out]at this;exact this);have zG:=(qh.set_ 0 (.slice A5 n5 c5)).far (p:=⟨w.heap.size+1,0,none⟩) (by first|(simp;omega)|simp) (.slice A7 n7 c7);have qB:=(qm.far (p:=⟨w.heap.size,0,none⟩) (by first|(simp;omega)|simp) (.slice A5 n5 c5));refine bodyPost_ret (v:=.tuple #[.agg #[.slice A5 n5 c5],.agg #[.slice A7 n7 c7]]) (by simp [results,Tryz.results157,go_sem,zG.cell,(qB.set_ 0 _).cell]) rfl
    ⟨_,_,_,_,_,_,rfl,?_,?_,?_⟩
   ·exact(e1.set_ (p:=⟨w.heap.size,0,none⟩) qh (by decide) _).set_ (p:=⟨w.heap.size+1,0,none⟩) qB (by decide) _
   ·exact(e2.set_ (p:=⟨w.heap.size,0,none⟩) qh (by decide) _).set_ (p:=⟨w.heap.size+1,0,none⟩) qB (by decide) _
   ·exact((zU.out.set_ (by first|(simp;omega)|simp) _).set_ (by first|(simp;omega)|simp) _)
theorem jzep(A:Option Addr)(n c N:Nat)(w:World)(h:NatR w A n c N):
  Calls Tryz.prog 156 #[.agg #[.slice A n c]] w fun e w'=>∃(x:Int) (ok:Bool),e=.returned (.tuple #[.int .u64 x,.bool ok])/\Ext w w':=by
 rcases Nat.lt_or_ge N 18446744073709551616 with hN|hN
 ·exact(jz0 A n c N w h hN).mono fun e w' ⟨h1,h2⟩=>⟨_,_,h1,h2⟩
 ·exact(jzaj A n c N w h hN).mono fun e w' ⟨h1,h2⟩=>⟨_,_,h1,h2⟩
theorem jzb{w:World}{p q:Addr}{u v:Value}(h:w.cell? p=some v)(hne:p.block≠q.block):(w.setCell q u).cell? p=some v:=(World.cell?_setCell_other w q p u (fun e=>hne (by rw [e]))).trans h
def SmallPost(w:World)(a b:Nat)(p r:Value)(wx:World):Prop:=
 ∃(A:Option Addr) (n c gx:Nat),p=.pointer (some ⟨gx,0,none⟩)/\r=.int .u32 ((a%b:Nat):Int)/\w.heap.size+1+1+1<gx/\Blk wx gx 33 #[.slice A n c]/\NatR wx A n c (a/b)/\Blk wx (w.heap.size+1+1) 33 #[.slice none 0 0]/\Blk wx (w.heap.size+1+1+1) 33 #[.slice none 0 0]/\Ext w wx
theorem jzj6(A1 A2:Option Addr)(n1 c1 n2 c2 a b:Nat)(w:World)(h1:NatR w A1 n1 c1 a)(h2:NatR w A2 n2 c2 b)(hn1:n1<=1073741824)(hb0:0<b)(hab:b<=a)(ha:18446744073709551616<=a):
  Calls Tryz.prog 105 #[.agg #[.slice A1 n1 c1],.agg #[.slice A2 n2 c2]] w (DivPost w (a/b) (a%b)):=by
 have H1:=Hx h1;have H2:=Hx h2;have z2:((n2:Int)==0)=false:=by
  have:=h2.eq_zero;exact yK.2 (by omega)
 have qU:n2≠0:=(by have:=h2.eq_zero;omega);have hq:0<=cmpI a b:=(by unfold cmpI;rw [if_neg (by omega)];split <;> omega);have HA:=Hx ha;have qZ:=Hx hab;have qM:=Hx hb0;clear h1 h2 ha hab hb0
 go_enter Tryz.func105,Tryz.ntmps105
 go_wp2_with fail
 refine(jzi A2 n2 c2 _).mono ?_;rintro e w1 ⟨rfl,qy⟩;obtain⟨qe,qa,qk,qi,e0⟩:=boxes4 w #[.slice A1 n1 c1] 33 #[.slice A2 n2 c2] 33 #[.slice none 0 0] 33 #[.slice none 0 0] 33;have HX:=Hx (e0.tr qy);have qe:=qe.keep qy;have qa:=qa.keep qy;have qk:=qk.keep qy;have qi:=qi.keep qy;have ca:=qe.one.1;have cb:=qa.one.1;clear e0 qy
 go_wp2_with fail
 refine(jzan A1 A2 n1 c1 n2 c2 a b _ (H1.out.keep HX.out) (H2.out.keep HX.out) (by omega)).mono ?_;rintro e w2 ⟨rfl,qz⟩;generalize cmpI a b=q at*;have qe:=qe.keep qz;have qa:=qa.keep qz;have qk:=qk.keep qz;have qi:=qi.keep qz;have qJ:=Hx (HX.out.tr qz);have ca:=qe.one.1;have cb:=qa.one.1;clear qz HX
 go_wp2_with fail
 refine(jzaj A1 n1 c1 a _ (H1.out.keep qJ.out) HA.out).mono ?_;rintro e w3 ⟨rfl,qx⟩;have qe:=qe.keep qx;have qa:=qa.keep qx;have qk:=qk.keep qx;have qi:=qi.keep qx;have qG:=Hx (qJ.out.tr qx);have ca:=qe.one.1;have cb:=qa.one.1;clear qx qJ
 go_wp2_with fail
 refine(jzep A2 n2 c2 b _ (H2.out.keep qG.out)).mono ?_;rintro e w4 ⟨x,ok,rfl,qw⟩;have qe:=qe.keep qw;have qa:=qa.keep qw;have qk:=qk.keep qw;have qi:=qi.keep qw;have qg:=Hx (qG.out.tr qw);obtain⟨ca,_⟩:=qe.one;obtain⟨cb,_⟩:=qa.one;have BR:=Hx qk;have BS:=Hx qi;have BA:=Hx qe;have BB:=Hx qa;clear qw qG qk qi qe qa;by_cases qW:n2=1
 ·subst qW
  have qC:((((1:Nat):Int))==1)=true:=rfl;obtain⟨ys,qS,q3,qn,qR,qQ⟩:=H2.out;obtain⟨b2,o2,rfl,qj,qh⟩:=qQ.rd.u32 (k:=0) (by omega);have qp:ys[0]?.getD 0=b:=by
   obtain⟨y,rfl⟩:∃y,ys=[y]:=List.length_eq_one_iff.1 qS;rw [<-qR];simp [Dig.val]
  have qH:b<4294967296:=(by rw [<-qp, <-jzo];exact jzj qn.lt 0);have cy:w4.cell? ⟨b2,o2,none⟩=some (.int .u32 (b:Int)):=by
   have:=(qg.out.cell (p:=⟨b2,o2+0,none⟩) qj).trans (qh 0 (by omega));rw [qp]at this;exact this
  have qK:b2<w4.heap.size:=yL qj qg.out.size;clear qS q3 qn qR qQ qh qp
  go_upto_region 10 with fail
  go_cut [11,12] (SmallPost w a b)
  case first=>
   have W0:=Hx (show Ext w4 w4.drew from(Ext.refl w4).drewN 1);have WA:=Hx (show Ext w4 (w4.alloc (.cells #[.slice none 0 0] 33)).drew from((Ext.refl w4).alloc _).drewN 1);have BN:=Hx (show Blk (w4.alloc (.cells #[.slice none 0 0] 33)).drew w4.heap.size 33 #[.slice none 0 0]from Blk.new w4 _ _);have q5:=ca;have qY:=cb;have q6:=cy
   go_region_held3 (fun w'=>w'.cell? ⟨w.heap.size,0,none⟩=some (.slice A1 n1 c1)/\w'.cell? ⟨w.heap.size+1,0,none⟩=some (.slice (some ⟨b2,o2,none⟩) 1 c2)/\w'.cell? ⟨b2,o2,none⟩=some (.int .u32 (b:Int)))
    (first|exact⟨ca,cb,cy⟩|exact⟨jzc ca _,jzc cb _,jzc cy _⟩|exact⟨jzb ca (Nat.ne_of_lt BA.out.lt),jzb cb (Nat.ne_of_lt BB.out.lt),jzb cy (Nat.ne_of_lt qK)⟩)
    (first
     |(go_at_call 128
       refine(jzaz A1 n1 c1 a b _ (by exact H1.out.keep (qg.out.tr W0.out)) hn1 qM.out qH).mono ?_;rintro e w5 ⟨A5,n5,c5,rfl,qm,qf⟩;have X5:=Hx (W0.out.tr qf);have R5:=Hx qm;have ca:=(X5.out.cell (p:=⟨w.heap.size,0,none⟩) BA.out.lt).trans ca;have cb:=(X5.out.cell (p:=⟨w.heap.size+1,0,none⟩) BB.out.lt).trans cb;have cy:=(X5.out.cell (p:=⟨b2,o2,none⟩) qK).trans cy;have qO:=Hx (show SmallPost w a b (.pointer (some ⟨w5.heap.size,0,none⟩)) (.int .u32 ((a%b:Nat):Int)) (w5.alloc (.cells #[.slice A5 n5 c5] 33))from
        ⟨A5,n5,c5,w5.heap.size,rfl,rfl,(BS.out.keep X5.out).lt,Blk.new _ _ _,R5.out.keep ((Ext.refl _).alloc _),(BR.out.keep X5.out).alloc _,(BS.out.keep X5.out).alloc _,(qg.out.tr X5.out).alloc _⟩)
       clear qf qm)
     |(go_at_call 128
       refine(jzaz A1 n1 c1 a b _ (by exact H1.out.keep (qg.out.tr WA.out)) hn1 qM.out qH).mono ?_;rintro e w5 ⟨A5,n5,c5,rfl,qm,qf⟩;have X5:=Hx (WA.out.tr qf);have R5:=Hx qm;have qI:=Hx (BN.out.keep qf);obtain⟨cn,fn⟩:=qI.out.one;have ca:=(X5.out.cell (p:=⟨w.heap.size,0,none⟩) BA.out.lt).trans q5;have cb:=(X5.out.cell (p:=⟨w.heap.size+1,0,none⟩) BB.out.lt).trans qY;have cy:=(X5.out.cell (p:=⟨b2,o2,none⟩) qK).trans q6;have qO:=Hx (show SmallPost w a b (.pointer (some ⟨w4.heap.size,0,none⟩)) (.int .u32 ((a%b:Nat):Int)) (w5.setCell ⟨w4.heap.size,0,none⟩ (.slice A5 n5 c5))from
        ⟨A5,n5,c5,w4.heap.size,rfl,rfl,BS.out.lt,qI.out.set_ 0 _,R5.out.set_ (p:=⟨w4.heap.size,0,none⟩) qI.out (by decide) _,(BR.out.keep X5.out).far (p:=⟨w4.heap.size,0,none⟩) (by have:=BR.out.lt;simp only;omega) _,(BS.out.keep X5.out).far (p:=⟨w4.heap.size,0,none⟩) (by have:=BS.out.lt;simp only;omega) _,Ext.set_ (qg.out.tr X5.out) (p:=⟨w4.heap.size,0,none⟩) (by have:=qg.out.size;simp only;omega) _⟩)
       clear qf qm))
   all_goals
    go_wp2;go_meet;exact qO.out
  case rest=>
   obtain⟨A5,n5,c5,gx,rfl,rfl,q7,bx,r5,br,bs,qf⟩:=hcut;have cx:=bx.one.1;obtain⟨d2,f2⟩:=br.one;obtain⟨d3,f3⟩:=bs.one;have q8:a%b<4294967296:=Nat.lt_trans (xT _ qM.out) qH;have R5:=Hx r5;have qo:=Hx br;have qB:=Hx bs;have qV:=Hx bx;have X5:=Hx qf;clear r5 br bs qf bx BR BS BA BB qg;have q9:=Hx (show a%b=a%b from rfl);generalize hrm:a%b=rm at*;have q0:=Hx hrm;clear hrm;have va:IntKind.u64.wrap (rm:Int)=(rm:Int):=IntWalk.u64_in _ (by omega);have qA:gx≠w.heap.size+1+1:=(by omega);have qE:gx≠w.heap.size+1+1+1:=(by omega);go_wp2
   go_region_held3 (fun w'=>w'.cell? ⟨gx,0,none⟩=some (.slice A5 n5 c5)) (first|exact cx|exact jzb cx qA|exact jzb (jzb cx qA) qE)
    (first
     |(go_at_call 106
       refine(jza5 _ _ (by omega) (by omega)).mono ?_;rintro e w6 ⟨A6,n6,c6,rfl,qD,qX⟩;have X6:=Hx (show Ext wc w6 from((Ext.refl wc).drewN 1).tr qX);have cx:=(qV.out.keep X6.out).one.1;obtain⟨d2,f2⟩:=(qo.out.keep X6.out).one;obtain⟨d3,f3⟩:=(qB.out.keep X6.out).one))
   go_wp2;have e1:NatR w6 A5 n5 c5 (a/b):=R5.out.keep X6.out;have e2:NatR w6 A6 n6 c6 rm:=qD;have qt:=qo.out.keep X6.out;have qF:=qB.out.keep X6.out;have qC:=(qt.set_ 0 (.slice A5 n5 c5)).far (p:=⟨w.heap.size+1+1+1,0,none⟩) (by first|(simp;omega)|simp) (.slice A6 n6 c6);have qj:=(qF.far (p:=⟨w.heap.size+1+1,0,none⟩) (by first|(simp;omega)|simp) (.slice A5 n5 c5));have qL:=X5.out.tr X6.out;refine bodyPost_ret (v:=.tuple #[.agg #[.slice A5 n5 c5],.agg #[.slice A6 n6 c6],.int .i64 0]) (by simp [results,Tryz.results105,go_sem,qC.cell,(qj.set_ 0 _).cell]) rfl
    ⟨_,_,_,_,_,_,rfl,?_,?_,?_⟩
   ·exact(e1.set_ (p:=⟨w.heap.size+1+1,0,none⟩) qt (by decide) _).set_ (p:=⟨w.heap.size+1+1+1,0,none⟩) qj (by decide) _
   ·exact(e2.set_ (p:=⟨w.heap.size+1+1,0,none⟩) qt (by decide) _).set_ (p:=⟨w.heap.size+1+1+1,0,none⟩) qj (by decide) _
   ·exact((qL.set_ (by first|(simp;omega)|simp) _).set_ (by first|(simp;omega)|simp) _)
 ·have qC:((n2:Int)==1)=false:=yK.2 (by omega)
  go_wp2_with fail
  refine(jzeo A1 A2 n1 c1 n2 c2 a b _ (H1.out.keep qg.out) (H2.out.keep qg.out) hn1 (by omega) qZ.out).mono ?_;rintro e w5 ⟨A5,n5,c5,A6,n6,c6,rfl,qm,qD,qf⟩;have qo:=Hx (BR.out.keep qf);have qB:=Hx (BS.out.keep qf);have X5:=Hx (qg.out.tr qf);have R5:=Hx qm;have R6:=Hx qD;clear qf qm qD ca cb qg;obtain⟨b1,b2,e7⟩:=boxes2 w5 #[.slice A5 n5 c5] 33 #[.slice A6 n6 c6] 33;generalize hw7:(w5.alloc (.cells #[.slice A5 n5 c5] 33)).alloc (.cells #[.slice A6 n6 c6] 33)=w7 at*;have qP:=Hx (qo.out.keep e7);have qN:=Hx (qB.out.keep e7);obtain⟨d2,f2⟩:=qP.out.one;obtain⟨d3,f3⟩:=qN.out.one;have p1:=b1.one.1;have p2:=b2.one.1;have q1:w.heap.size+1+1≠w5.heap.size:=(by have:=qo.out.lt;omega);have q2:w.heap.size+1+1≠w5.heap.size+1:=(by have:=qo.out.lt;omega);have q4:=Hx (R5.out.keep e7);have qT:=Hx (R6.out.keep e7);have X7:=Hx (X5.out.tr e7);clear e7 b1 b2 R5 R6 X5 qo qB;go_wp2;clear hw7
  go_region
  all_goals
   go_wp2;have qt:=qP.out;have qF:=qN.out;have qC:=(qt.set_ 0 (.slice A5 n5 c5)).far (p:=⟨w.heap.size+1+1+1,0,none⟩) (by first|(simp;omega)|simp) (.slice A6 n6 c6);have qj:=(qF.far (p:=⟨w.heap.size+1+1,0,none⟩) (by first|(simp;omega)|simp) (.slice A5 n5 c5));have qL:=X7.out;refine bodyPost_ret (v:=.tuple #[.agg #[.slice A5 n5 c5],.agg #[.slice A6 n6 c6],.int .i64 0]) (by simp [results,Tryz.results105,go_sem,qC.cell,(qj.set_ 0 _).cell]) rfl
    ⟨_,_,_,_,_,_,rfl,?_,?_,?_⟩
   ·exact(q4.out.set_ (p:=⟨w.heap.size+1+1,0,none⟩) qt (by decide) _).set_ (p:=⟨w.heap.size+1+1+1,0,none⟩) qj (by decide) _
   ·exact(qT.out.set_ (p:=⟨w.heap.size+1+1,0,none⟩) qt (by decide) _).set_ (p:=⟨w.heap.size+1+1+1,0,none⟩) qj (by decide) _
   ·exact((qL.set_ (by first|(simp;omega)|simp) _).set_ (by first|(simp;omega)|simp) _).drewN 1
theorem jzgg(x y:Nat)(hy:0<y):DivModAt x y:=fun A1 A2 n1 c1 n2 c2 w h1 h2 hn1 hn2=>by
 rcases Nat.lt_or_ge x 18446744073709551616 with hx|hx
 ·exact jza6 hy hx A1 A2 n1 c1 n2 c2 w h1 h2 hn1 hn2
 ·rcases Nat.lt_or_ge x y with h|h
  ·rw [Nat.div_eq_of_lt h,Nat.mod_eq_of_lt h];exact jzd3 A1 A2 n1 c1 n2 c2 x y w h1 h2 hn1 h
  ·exact jzj6 A1 A2 n1 c1 n2 c2 x y w h1 h2 hn1 hy h hx
theorem jzp{N D:Nat}(hD:D≠0):ReducedAt N D:=jzc9 hD (fun _ x y hy=>jzgg x y hy)
theorem jzdd{w:World}{B n:Nat}{e:TypeId}{v:Value}{xs:List Value}(h:w.ownsRow B e 1 v (n+1) xs):∃g cap,v=.slice (some ⟨g,0,none⟩) (n+1) cap/\n+1<=cap:=by
 rcases h.2 with⟨_,h2⟩|⟨g,cap,_,h2,_,_,h3,_⟩
 ·omega
 ·exact⟨g,cap,h2,h3⟩
theorem own_form'{w:World}{B n:Nat}{e:TypeId}{v:Value}{xs:List Value}(h:w.ownsRow B e 1 v n xs):∃A cap,v=.slice A n cap:=by
 rcases h.2 with⟨h1,h2⟩|⟨g,cap,_,h2,_⟩
 ·exact⟨none,0,by rw [h1,h2]⟩
 ·exact⟨_,cap,h2⟩
end Go.Proofs.YthbmikapohlikaaGreatDoor
