/- Part 5 of 23 of what the Flows claims share (the white space is struck, the texts are joined). -/
import Derived.Laws.EntriesVeiled
import Derived.Test.YtllmekijiohgmaaGreatDoorT04
set_option linter.unusedVariables false
set_option linter.unusedSimpArgs false
set_option maxRecDepth 100000
set_option maxHeartbeats 8000000
namespace Go.Proofs.YtllmekijiohgmaaGreatDoor.Dig
def guess(B u0 u1 u2 v1 v2:Nat):Nat:=min (B-1) (((u0*B+u1)*B+u2)/(v1*B+v2))
theorem guess_done{B u0 u1 u2 v1 v2 g r:Nat}(hv:0<v1*B+v2)(h:g*v1+r=u0*B+u1)(h1:g<B)(h2:g*v2<=r*B+u2)(hG:guess B u0 u1 u2 v1 v2<=g):g=guess B u0 u1 u2 v1 v2:=by
 have e:g*(v1*B+v2)<=(u0*B+u1)*B+u2:=(by rw[<-h,kQc,xP, <-kQg];omega);have e2:g<=((u0*B+u1)*B+u2)/(v1*B+v2):=(kZy hv).2 e;unfold guess at*;omega
theorem guess_more{B u0 u1 u2 v1 v2 g r:Nat}(hB:0<B)(hv:0<v1*B+v2)(h:g*v1+r=u0*B+u1)(hc:B<=g\/r*B+u2<g*v2):guess B u0 u1 u2 v1 v2<g:=by
 (unfold guess;rcases hc with hc|hc);{omega};have e:(u0*B+u1)*B+u2<g*(v1*B+v2):=(by rw[<-h,kQc,xP, <-kQg];omega);have:=(kZp hv).2 e;omega
theorem guess_break{B u0 u1 u2 v1 v2 g r:Nat}(hv:0<v1*B+v2)(h:g*v1+r=u0*B+u1)(hu:u0<=v1)(hu1:u1<B)(hv2:v2<B)(hr:B<=r)(hG:guess B u0 u1 u2 v1 v2<=g):g<B/\g=guess B u0 u1 u2 v1 v2:=by
 have h1:g<B:=(by (rcases kQd g B with h2|h2);{exact h2};have h3:B*v1<=g*v1:=xS _ h2;have h4:u0*B<=v1*B:=xS _ hu;rw[vE v1 B]at h4;omega);refine⟨h1,guess_done hv h h1 ?_ hG⟩;have h5:g*v2<=B*B:=kQq (by omega) (by omega);have h6:B*B<=r*B:=xS _ hr;omega
theorem guess_start{B u0 u1 u2 v1 v2:Nat}(hv1:0<v1)(hu2:u2<B):guess B u0 u1 u2 v1 v2<=(u0*B+u1)/v1:=by
 rw[kZy hv1];have hB:0<B:=(by omega);have h0:guess B u0 u1 u2 v1 v2<=((u0*B+u1)*B+u2)/(v1*B+v2):=(by unfold guess;omega);have hv:0<v1*B+v2:=(by have:=Nat.mul_pos hv1 hB;omega);have h1:=(kZy hv).1 h0;generalize guess B u0 u1 u2 v1 v2=g at*;rw[kQc, <-kQg]at h1;have h2:g*v1*B<(u0*B+u1+1)*B:=(by rw[xP (u0*B+u1) 1 B,xQ];omega);have h3:=Nat.lt_of_mul_lt_mul_right h2;omega
theorem jzeg{B k U V u v u0 u1 u2 v1 v2:Nat}(hB:0<B)(hU:U=((u0*B+u1)*B+u2)*B^k+u)(hu:u<B^k)(hV:V=(v1*B+v2)*B^k+v)(hv:v<B^k)(hlt:U<V*B)(hV2:B<=v1*B+v2):
  U/V<=guess B u0 u1 u2 v1 v2/\guess B u0 u1 u2 v1 v2<=U/V+1:=by
 unfold guess;generalize (u0*B+u1)*B+u2=U3 at*;generalize v1*B+v2=V2 at*;have hP:0<B^k:=kQy hB;generalize B^k=P at*;have qa:0<V:=(by have:=Nat.mul_pos (show 0<V2 by omega) hP;omega);constructor;{have h1:U/V<B:=(kZp qa).2 (by rw[vE];exact hlt);have h2:=Nat.div_mul_le_self U V;generalize U/V=Q at*;have h3:Q*V2*P<(U3+1)*P:=(by rw[hV,kQc, <-kQg]at h2;rw[xP U3 1 P,xQ];omega);have h4:=Nat.lt_of_mul_lt_mul_right h3;have h5:Q<=U3/V2:=(kZy (by omega)).2 (by omega);omega};(have h0:min (B-1) (U3/V2)<=U3/V2:=(by omega);have h1:=(kZy (show 0<V2 by omega)).1 h0;have hg:min (B-1) (U3/V2)<=B:=(by omega);generalize min (B-1) (U3/V2)=g at*;cases g with|zero=>exact yZ _|succ g=>have h2:g<=U/V:=(by rw[kZy qa,hV,hU,kQc, <-kQg];have h3:(g+1)*V2*P<=U3*P:=xS _ h1;rw[xP,xP,xQ]at h3;have h4:g*v<=V2*P:=kQq (by omega) (by omega);omega);exact Nat.succ_le_succ h2)
end Go.Proofs.YtllmekijiohgmaaGreatDoor.Dig
namespace Go.Proofs.YtllmekijiohgmaaGreatDoor.Dig
theorem shl_lt{B c p x low:Nat}(hB:B=c*p)(hlow:low<p)(hc:0<c):x*p%B+low<B:=by
 subst hB;rw[Nat.mul_mod_mul_right];have h1:x%c<c:=xT _ hc;have h2:(x%c+1)*p<=c*p:=xS _ h1;rw[xP,xQ]at h2;omega
theorem shl_step{B p k x low:Nat}{xs ls:LN}(hk:k<xs.length)(hl:k<ls.length)(ex:x=xs[k]?.getD 0)(h:val B (ls.take k)+B^k*low=val B (xs.take k)*p):
  val B ((ls.set k (x*p%B+low)).take (k+1))+B^(k+1)*(x*p/B)=val B (xs.take (k+1))*p:=by
 rw[val_take_set B ls k _ hl,val_take_succ' B xs k hk];simp only[List.getD];rw[<-ex,xP, <-h,kQc,vD];have e:B^k*(x*p%B)+B^k*B*(x*p/B)=B^k*x*p:=(by rw[kQg, <-kQc,Nat.mod_add_div, <-kQg]);omega
theorem shr_step{B p c d D:Nat}(hp:0<p)(hB:B=c*p)(hc:0<c)(hd:d<B):(d+B*D)/p=(D%B*B+d)/p%B+B*(D/p):=by
 have qa:0<B:=(by rw[hB];exact Nat.mul_pos hc hp);have key:∀q r,r<p->((q*p+r)*B+d)/p=q*B+(r*B+d)/p:=(by intro q r hr;have e:(q*p+r)*B+d=(r*B+d)+p*(q*B):=(by rw[xP,kQg,Nat.mul_left_comm q p B];omega);rw[e,Nat.add_mul_div_left _ _ hp];omega);have small:∀r,r<p->(r*B+d)/p<B:=(by intro r hr;rw[kZp hp];have:(r+1)*B<=p*B:=xS _ hr;rw[xP,xQ,vE p B]at this;omega);have hr:D%p<p:=xT _ hp;have h1:(d+B*D)/p=D/p*B+(D%p*B+d)/p:=(by have:=key (D/p) (D%p) hr;rw[vE (D/p) p,kZj]at this;rw[kZl d,vE B D];exact this);have h2:D%B%p=D%p:=Nat.mod_mod_of_dvd D (by rw[hB];exact Nat.dvd_mul_left _ _);have h3:(D%B*B+d)/p=D%B/p*B+(D%p*B+d)/p:=(by have:=key (D%B/p) (D%B%p) (by rw[h2];exact hr);rw[vE (D%B/p) p,kZj,h2]at this;exact this);rw[h1,h3,kZl (D%B/p*B),Nat.add_mul_mod_self_right,kQv (small _ hr),vE B];omega
theorem red_step{B i q x y pc br d br':Nat}{uo un vs:LN}(hv:i<vs.length)(hu:i<uo.length)(hn:i<un.length)(ey:y=vs[i]?.getD 0)(ex:x=uo[i]?.getD 0)(hd:x+B*br'=d+(pc+y*q)%B+br)
  (h:val B (un.take i)+q*val B (vs.take i)=val B (uo.take i)+B^i*(pc+br)):
  val B ((un.set i d).take (i+1))+q*val B (vs.take (i+1))=val B (uo.take (i+1))+B^(i+1)*((pc+y*q)/B+br'):=by
 rw[val_take_set B un i _ hn,val_take_succ' B vs i hv,val_take_succ' B uo i hu];simp only[List.getD];rw[<-ey, <-ex,vD];have e1:q*(B^i*y)=B^i*(y*q):=(by rw[Nat.mul_left_comm,vE q y]);have e2:B^i*B*((pc+y*q)/B+br')+B^i*((pc+y*q)%B)=B^i*(pc+y*q)+B^i*(B*br'):=(by rw[kQg, <-kQc,kQc B,Nat.add_right_comm,kZj,kQc]);have e3:B^i*x+B^i*(B*br')=B^i*d+B^i*((pc+y*q)%B)+B^i*br:=(by rw[<-kQc,hd,kQc,kQc]);have e4:B^i*(pc+y*q)=B^i*pc+B^i*(y*q):=kQc _ _ _;have e5:q*(val B (vs.take i)+B^i*y)=q*val B (vs.take i)+q*(B^i*y):=kQc _ _ _;rw[kQc]at h;omega
theorem red_top{B q x pc br d br' n V:Nat}{uo un:LN}(hu:n+1=uo.length)(hn:n<un.length)(hl:un.length=uo.length)(ex:x=uo[n]?.getD 0)(hd:x+B*br'=d+pc+br)
  (h:val B (un.take n)+q*V=val B (uo.take n)+B^n*(pc+br)):
  val B (un.set n d)+q*V=val B uo+B^(n+1)*br':=by
 have h1:=val_take_set B un n d hn;rw[yU (by rw[yV];omega)]at h1;have h2:=val_take_succ' B uo n (by omega);rw[yU (by omega)]at h2;simp only[List.getD]at h2;rw[h1,h2, <-ex,vD];have e3:B^n*x+B^n*B*br'=B^n*d+B^n*pc+B^n*br:=(by rw[kQg, <-kQc,hd,kQc,kQc]);rw[kQc]at h;omega
theorem red_none{q V U R:Nat}(hV:0<V)(h:R+q*V=U)(hq:U/V<=q):q=U/V/\R=U%V:=by
 have h1:q<=U/V:=(kZy hV).2 (by omega);have h2:q=U/V:=Nat.le_antisymm h1 hq;refine⟨h2,?_⟩;have h3:=kZj U V;rw[<-h2,vE]at h3;omega
theorem red_back{q V U R R' M c:Nat}(hV:0<V)(hR:R<M)(hR':R'<M)(h:R+q*V=U+M)(h':R'+M*c=R+V)(hc:c<=1)(hq:q<=U/V+1):0<q/\q-1=U/V/\R'=U%V:=by
 have h1:U/V<q:=(kZp hV).2 (by omega);have h2:q=U/V+1:=Nat.le_antisymm hq h1;have h3:=kZj U V;have h4:q*V=V*(U/V)+V:=(by rw[h2,xP,xQ,vE]);have hm:c=0\/c=1:=(by omega);generalize U/V=Q at*;refine⟨by omega,by omega,?_⟩;generalize V*Q=X at*;generalize q*V=Y at*;rcases hm with rfl|rfl
 ·simp at h';omega
 simp at h';omega
end Go.Proofs.YtllmekijiohgmaaGreatDoor.Dig
namespace Go.Proofs.YtllmekijiohgmaaGreatDoor.Dig
theorem top3{B n:Nat}{uo:LN}(h:uo.length=n+1)(hn:2<=n):
  val B uo=((uo[n]?.getD 0*B+uo[n-1]?.getD 0)*B+uo[n-2]?.getD 0)*B^(n-2)+val B (uo.take (n-2)):=by
 have h1:=val_split' B uo (n-2) (by omega);have h2:=val_drop' B uo (n-2) (by omega);have h3:=val_drop' B uo (n-1) (by omega);have h4:=val_drop' B uo n (by omega);rw[kQf (show uo.length<=n+1 by omega),val_nil,kQ8,kQ3]at h4;rw[show n-2+1=n-1 by omega]at h2;rw[show n-1+1=n by omega]at h3;simp only[List.getD]at h2 h3 h4;rw[h1,h2,h3,h4,vE (B^(n-2)),kZl (val B _)];congr 2;rw[vE B,kZl,vE B,kZl (uo[n-1]?.getD 0)]
theorem top2{B n:Nat}{vs:LN}(h:vs.length=n)(hn:2<=n):val B vs=(vs[n-1]?.getD 0*B+vs[n-2]?.getD 0)*B^(n-2)+val B (vs.take (n-2)):=by
 have h1:=val_split' B vs (n-2) (by omega);have h2:=val_drop' B vs (n-2) (by omega);have h3:=val_drop' B vs (n-1) (by omega);rw[show n-1+1=n by omega,kQf (show vs.length<=n by omega),val_nil,kQ8,kQ3]at h3;rw[show n-2+1=n-1 by omega]at h2;simp only[List.getD]at h2 h3;rw[h1,h2,h3,vE (B^(n-2)),kZl (val B _),vE B,kZl (vs[n-2]?.getD 0)]
theorem rC{B n:Nat}{vs:LN}(h:vs.length=n+1):val B vs=vs[n]?.getD 0*B^n+val B (vs.take n):=by
 have h1:=val_take_succ' B vs n (by omega);rw[yU (by omega)]at h1;simp only[List.getD]at h1;rw[h1,vE,kZl]
theorem mY{B:Nat}(hB:0<B){ds:LN}(h:∀d∈ds,d<B)(k:Nat)(hk:k<=ds.length):val B (ds.take k)<B^k:=by
 have:=val_lt hB (ds:=ds.take k) (fun d hd=>h d (xM hd));rw[xF,kZh hk]at this;exact this
theorem norm{B n p:Nat}{ys:LN}(hB:0<B)(hys:∀d∈ys,d<B)(h:ys.length=n+1)(h2:(ys[n]?.getD 0+1)*p<=B)(h1:B<=2*(ys[n]?.getD 0*p)):
  val B ys*p<B^(n+1)/\B^(n+1)<=2*(val B ys*p):=by
 have e:=rC (B:=B) h;have hl:=mY hB hys n (by omega);generalize ys[n]?.getD 0=t at*;generalize val B (ys.take n)=l at*;have hP:0<B^n:=kQy hB;have hp:0<p:=(by (rcases kQm p with e0|e0);{subst e0;simp at h1;omega};exact e0);rw[e,vD];constructor;{have h3:(t*B^n+l)*p<((t+1)*B^n)*p:=Nat.mul_lt_mul_of_pos_right (by rw[xP,xQ];omega) hp;refine yL h3 ?_;rw[Nat.mul_right_comm,vE];exact kQh _ h2};have h3:B^n*B<=B^n*(2*(t*p)):=kQh _ h1;refine yY h3 ?_;rw[Nat.mul_left_comm];refine kQh _ ?_;rw[xP,vE (B^n),Nat.mul_right_comm];omega
theorem rD{B j n V:Nat}{du:LN}(hB:0<B)(hdu:∀d∈du,d<B)(hj:j+n+1<=du.length)(hlow:val B (du.drop (j+1))<V)(hV:V<=B^n):
  val B (du.drop (j+n+1))=0/\val B ((du.drop j).take (n+1))=val B (du.drop j)/\val B (du.drop j)<V*B:=by
 have h1:=val_drop' B du j (by omega);have hd:du.getD j 0<B:=(by rw[List.getD_eq_getElem?_getD,yG (by omega)];exact hdu _ (xR _));have h2:B*(val B (du.drop (j+1))+1)<=B*V:=kQh _ hlow;rw[kQc,Nat.mul_one]at h2;have h3:val B (du.drop j)<V*B:=(by rw[h1,vE V];omega);have h4:=val_split' B (du.drop j) (n+1) (by rw[List.length_drop];omega);rw[List.drop_drop]at h4;have h5:V*B<=B^(n+1):=(by rw[vD];exact xS _ hV);have h6:val B (du.drop (j+(n+1)))=0:=(by (rcases kQm (val B (du.drop (j+(n+1))))with e|e);{exact e};have:=kQh (B^(n+1)) (show 1<=val B (du.drop (j+(n+1)))from e);omega);refine⟨h6,?_,h3⟩;rw[h6,kQ8,kQ3]at h4;exact h4.symm
theorem split3(du:LN)(j n:Nat):du=du.take j++((du.drop j).take (n+1)++du.drop (j+n+1)):=by
 rw[show du.drop (j+n+1)=(du.drop j).drop (n+1) by rw[List.drop_drop,kZw],kZz,kZz]
theorem jzeh{B n U V u0 v1 u v:Nat}(hU:U=u0*B^(n+1)+u)(hV:V=v1*B^n+v)(hv:v<B^n)(hlt:U<V*B):u0<=v1:=by
 (rcases kQd v1 u0 with h|h);{have h1:(v1+1)*B^(n+1)<=u0*B^(n+1):=xS _ h;have h2:V*B<=(v1+1)*B^n*B:=xS _ (by rw[hV,xP,xQ];omega);rw[kQg,show B^n*B=B^(n+1)from rfl]at h2;omega};exact h
theorem low_start{B nq n p V X:Nat}{us:LN}(hB:0<B)(hus:nq<=us.length)(hX:val B us=X*p)(hX2:X<B^(nq+n))(hV:B^(n+1)<=2*V)(hp:2*p<=B)(hp0:0<p):val B (us.drop nq)<V:=by
 rcases kQd (val B (us.drop nq)) V with h|h
 ·exact h
 exfalso;have h1:=val_split' B us nq hus;have h2:B^nq*V<=B^nq*val B (us.drop nq):=kQh _ h;have h3:B^nq*B^(n+1)<=B^nq*(2*V):=kQh _ hV;have h4:B^(nq+n)*(2*p)<=B^(nq+n)*B:=kQh _ hp;have h5:X*p<B^(nq+n)*p:=Nat.mul_lt_mul_of_pos_right hX2 hp0;have e1:B^nq*B^(n+1)=B^(nq+n)*B:=(by rw[<-Nat.pow_add, <-kZw,vD]);have e2:B^(nq+n)*(2*p)=2*(B^(nq+n)*p):=(by rw[Nat.mul_left_comm]);have e3:B^nq*(2*V)=2*(B^nq*V):=(by rw[Nat.mul_left_comm]);omega
theorem div_step{B j k n A V:Nat}{du dq un:LN}(hk:k=j+1)(hj:j+n+1<=du.length)(hq:j<dq.length)(hV:0<V)(hA:A=val B (dq.drop k)*B^k*V+val B du)
  (hb:val B (du.drop (j+n+1))=0) (hw:val B ((du.drop j).take (n+1))=val B (du.drop j)) (hun:un.length=n+1) (hr:val B un=val B ((du.drop j).take (n+1))%V):
  A=val B ((dq.set j (val B ((du.drop j).take (n+1))/V)).drop j)*B^j*V+val B (du.take j++(un++du.drop (j+n+1)))/\val B ((du.take j++(un++du.drop (j+n+1))).drop j)<V:=by
 subst hk;have hl:(du.take j).length=j:=(by rw[xF,kZh (by omega)]);constructor;{rw[drop_set_self _ _ _ hq,val_cons,kY,kY,hb,kQ8,kQ3,hl,hr];simp only[kQ3];have h1:=val_split' B du j (by omega);rw[<-hw]at h1;rw[hA,h1];generalize val B ((du.drop j).take (n+1))=U at*;generalize val B (du.take j)=L;generalize val B (dq.drop (j+1))=D;have h2:=kZj U V;have e1:B^j*U=B^j*(V*(U/V))+B^j*(U%V):=(by rw[<-kQc,h2]);have e2:(U/V+B*D)*B^j*V=B^j*(V*(U/V))+D*B^(j+1)*V:=(by rw[xP,xP,vD];congr 1;{rw[vE (U/V),kQg,vE (U/V)]};rw[vE B D,kQg D B,vE B]);omega};rw[List.drop_append_of_le_length (by omega),kQf (by omega),List.nil_append,kY,hb,kQ8,kQ3,hr];exact xT _ hV
theorem digit_facts{B j:Nat}{du vs:LN}(hB:2<=B)(hL:2<=vs.length)(hdu:∀d∈du,d<B)(hvs:∀d∈vs,d<B)(hj:j+vs.length+1<=du.length)(hlow:val B (du.drop (j+1))<val B vs)(hnorm:B^vs.length<=2*val B vs):
  val B (du.drop (j+vs.length+1))=0/\val B ((du.drop j).take (vs.length+1))=val B (du.drop j)/\
  val B ((du.drop j).take (vs.length+1))/val B vs<=guess B (du[j+vs.length]?.getD 0) (du[j+vs.length-1]?.getD 0) (du[j+vs.length-2]?.getD 0) (vs[vs.length-1]?.getD 0) (vs[vs.length-2]?.getD 0)/\
  guess B (du[j+vs.length]?.getD 0) (du[j+vs.length-1]?.getD 0) (du[j+vs.length-2]?.getD 0) (vs[vs.length-1]?.getD 0) (vs[vs.length-2]?.getD 0)<=val B ((du.drop j).take (vs.length+1))/val B vs+1/\
  du[j+vs.length]?.getD 0<=vs[vs.length-1]?.getD 0/\B<=2*vs[vs.length-1]?.getD 0+1/\0<val B vs:=by
 have qe:0<B:=(by omega);have qf:=val_lt qe hvs;obtain⟨wz,ww,wl⟩:=rD (n:=vs.length) qe hdu (by omega) hlow (kQe qf);have qi:((du.drop j).take (vs.length+1)).length=vs.length+1:=(by rw[xF,List.length_drop];omega);have qm:∀d∈(du.drop j).take (vs.length+1),d<B:=fun d hd=>hdu d (List.mem_of_mem_drop (xM hd));have t3:=top3 (B:=B) qi (by omega);have t2:=top2 (B:=B) (vs:=vs) rfl hL;have t1:=rC (B:=B) (vs:=vs) (n:=vs.length-1) (by omega);have s1:=rC (B:=B) qi;have qa:∀i,i<=vs.length->((du.drop j).take (vs.length+1))[i]?.getD 0=du[j+i]?.getD 0:=fun i hi=>(by rw[xG,if_pos (by omega),List.getElem?_drop]);rw[qa _ (yX _),qa (vs.length-1) (by omega),qa (vs.length-2) (by omega),show j+(vs.length-1)=j+vs.length-1 by omega,show j+(vs.length-2)=j+vs.length-2 by omega]at t3;rw[qa _ (yX _)]at s1;have l3:=mY qe qm (vs.length-2) (by omega);have l2:=mY qe hvs (vs.length-2) (by omega);have l1:=mY qe hvs (vs.length-1) (by omega);have qh:val B ((du.drop j).take (vs.length+1))<val B vs*B:=(by rw[ww];exact wl);have qj:B<=2*vs[vs.length-1]?.getD 0+1:=(by (rcases kQd (2*vs[vs.length-1]?.getD 0+1) B with h|h);{exfalso;have h1:B^vs.length=B^(vs.length-1)*B:=(by rw[<-vD];congr 1;omega);have h2:B^(vs.length-1)*(2*vs[vs.length-1]?.getD 0+2)<=B^(vs.length-1)*B:=kQh _ h;rw[kQc,Nat.mul_left_comm,vE (B^(vs.length-1)) (vs[vs.length-1]?.getD 0)]at h2;omega};exact h);have qk:0<val B vs:=(by have:0<B^vs.length:=kQy qe;omega);have qg:du[j+vs.length]?.getD 0<=vs[vs.length-1]?.getD 0:=(by exact jzeh (n:=vs.length-1) (by rw[show vs.length-1+1=vs.length by omega];exact s1) t1 l1 qh);have qn:B<=vs[vs.length-1]?.getD 0*B+vs[vs.length-2]?.getD 0:=(by have:1*B<=vs[vs.length-1]?.getD 0*B:=xS _ (by omega);omega);obtain⟨q1,q2⟩:=jzeg qe t3 l3 t2 l2 qh qn;exact⟨wz,ww,q1,q2,qg,qj,qk⟩
end Go.Proofs.YtllmekijiohgmaaGreatDoor.Dig
namespace Go.Proofs.YtllmekijiohgmaaGreatDoor
open Go.RowKit
theorem rE(s:Nat)(hs:s<32):B32=2^(32-s)*2^s:=by
 rw[<-Nat.pow_add,Nat.sub_add_cancel (by omega)];rfl
theorem jzei(x low s:Nat)(hx:x<4294967296)(hs:s<32)(hlow:low<2^s):
  bits BinOp.or IntKind.u32 ((x:Int)*2^s%4294967296) (low:Int)=((x*2^s%B32+low:Nat):Int)/\IntKind.u64.wrap ((x:Int)*2^s)/4294967296%4294967296=((x*2^s/B32:Nat):Int)/\x*2^s/B32<2^s/\x*2^s%B32+low<B32:=by
 have hp:2^s<4294967296:=Nat.pow_lt_pow_of_lt (a:=2) (by decide) hs;have hc:0<2^(32-s):=kQy (by decide);have e:(x:Int)*2^s=((x*2^s:Nat):Int):=(by rw[kZk,Int.natCast_pow];rfl);have h1:x*2^s<4294967296*2^s:=Nat.mul_lt_mul_of_pos_right hx (kQy (by decide));have h2:=Dig.shl_lt (x:=x) (rE s hs) hlow hc;have hm:x*2^s%B32=2^s*(x%2^(32-s)):=(by rw[rE s hs,Nat.mul_mod_mul_right,vE]);have qa:x*2^s%B32|||low=x*2^s%B32+low:=(by rw[hm];exact(Nat.two_pow_add_eq_or_of_lt hlow _).symm);rw[aT]at*;refine⟨?_,?_,?_,h2⟩;{rw[e,show((x*2^s:Nat):Int)%4294967296=((x*2^s%4294967296:Nat):Int) by omega,u32_or_nat _ _ (by omega) (by omega),qa]};{rw[e,IntKind.wrap_u64];omega};rw[kZp (by decide),vE (2^s)];exact h1
theorem uS A(c s len:Nat)(xs:LN)w(hc:xs.length<=c)(hxs:∀d∈xs,d<B32)(hr:RdT w 168 A (dD xs))(hn:xs.length<=1073741824)(hs:s<32)(qk:len=xs.length\/len=xs.length+1):
  Calls Tryz.prog 218 #[.s A xs.length c,vI s,vI len] w fun e w'=>∃(g:Nat) (ls:LN),e=.returned (.s (sA g) len len)/\Row w' g ls/\ls.length=len/\(∀d∈ls,d<B32)/\w.heap.size<=g/\Ext w w'/\Dig.val B32 ls=Dig.val B32 xs*2^s%B32^len:=by
 have qz:=run_make_row' (P:=Tryz.prog) 36 168 (.int .u32 0) 4 Tryz.underlying36 Tryz.info167 rfl .i64 .i64 len (by omega) (by omega);have qE:xs.length<=len:=(by omega);have qD:len<=xs.length+1:=(by omega);clear qk;go_enter Tryz.func218,Tryz.ntmps218;go_wp2;clear qz
 go_loopw [8,9,10,15] (fun lo _ _ it wr=>∃(k low:Nat) (ls:LN),k<=xs.length/\it=vI k/\lo=.int .u32 low/\low<2^s/\ls.length=len/\(∀d∈ls,d<B32)/\(∀j,k<=j->ls[j]?.getD 0=0)/\
  Dig.val B32 (ls.take k)+B32^k*low=Dig.val B32 (xs.take k)*2^s/\Row wr w.heap.size ls/\Ext w wr) (fun _ _ _ i _=>xs.length-(intOf i).toNat)
 (case atStart=>refine⟨0,0,List.replicate len 0,yZ _,rfl,rfl,kQy (by decide),by simp,fun d hd=>?_,fun j _=>?_,by simp[Dig.val],Row.made _ _ rfl,(eR _).alloc _⟩;{have:=uF hd;subst this;exact aY};rw[xB];split <;> rfl);obtain⟨k,low,ls,hk,rfl,rfl,qi,qt,qm,qh,qj,qa,hx⟩:=hrel;have HV:=Hx qj;have qg:=Hx qt;have HZ:=Hx qh;clear qj qt qh;by_cases qw:k<xs.length
 ·obtain⟨b1,o1,rfl,qA,qe⟩:=hr.rd.u32 (k:=k) (by omega);have qC:wr.cell? (aD b1 (o1+k))=_:=(hx.cell (p:=(aD b1 (o1+k))) qA).trans (qe k (by omega));have qx:=qa.cell (i:=k) (by have:=qg.o;omega);have qB:=qa.frozen k;have qu:=cJ hxs k;rw[aT]at qu;generalize hxe:xs[k]?.getD 0=x at*;generalize ls[k]?.getD 0=dk at*;have HX:=Hx hxe;have qo:=Hx qi;clear hxe qe qi;obtain⟨d1,d2,d3,d4⟩:=jzei x low s qu hs qo.o;have D1:=Hx d1;have D2:=Hx d2;have D3:=Hx d3;have D4:=Hx d4;clear d1 d2 d3 d4;go_wp2;go_roundw
  case rel=>
   rw[D1.o,D2.o];exact⟨k+1,x*2^s/B32,ls.set k (x*2^s%B32+low),by omega,by go_num,rfl,D3.o,by rw[yV];exact qg.o,Dig.set_lt qm D4.o,fun j hj=>by rw[vN (by omega)];exact HZ.o j (by omega),
    Dig.shl_step qw (by have:=qg.o;omega) HX.o.symm HV.o,qa.sT _ _,Below.setCell hx (by simp) _⟩
  simp[intOf];omega
 have qy:k=xs.length:=(by omega);subst qy;rw[yU (yX _)]at HV;have qn:=Dig.val_lt aY hxs;by_cases qk:xs.length<len;{(have qp:len=xs.length+1:=by omega);subst qp;have qx:=qa.cell (i:=xs.length) (by have:=qg.o;omega);have qB:=qa.frozen xs.length;generalize ls[xs.length]?.getD 0=dk at*;have hp:2^s<B32:=(by show 2^s<2^32;exact Nat.pow_lt_pow_of_lt (by decide) hs);have qf:Dig.val B32 (ls.set xs.length low)=Dig.val B32 xs*2^s%B32^(xs.length+1):=(by have h1:=Dig.val_take_set B32 ls xs.length low (by have:=qg.o;omega);rw[yU (by rw[yV];have:=qg.o;omega)]at h1;rw[h1,HV.o,kQv];rw[vD];exact kZb qn (kQe hp) aY);have HF:=Hx qf;have HP:=Hx hp;clear qf qn hp;go_wp2;go_ret;exact⟨w.heap.size,ls.set xs.length low,rfl,qa.sT _ _,by rw[yV];exact qg.o,Dig.set_lt qm (Nat.lt_trans qi HP.o),yX _,Below.setCell hx (by simp) _,HF.o⟩};have qp:len=xs.length:=(by omega);subst qp;have qf:Dig.val B32 ls=Dig.val B32 xs*2^s%B32^xs.length:=(by have h1:=HV.o;rw[yU (by rw[qg.o];exact yX _)]at h1;have h2:=Dig.val_lt aY qm;rw[qg.o]at h2;rw[<-h1,Nat.add_mul_mod_self_left,kQv h2]);have HF:=Hx qf;clear qf qn;go_wp2;go_ret;exact⟨w.heap.size,ls,rfl,qa,qg.o,qm,yX _,hx,HF.o⟩
theorem jzej(xs:LN)(hxs:∀d∈xs,d<B32)(k:Nat):Dig.val B32 (xs.drop k)%B32=xs[k]?.getD 0:=by
 by_cases hk:k<xs.length;{rw[Dig.val_drop' B32 xs k hk,Nat.add_mul_mod_self_left,kQv];{rfl};exact cJ hxs k};rw[kQf (by omega),yI (by omega)];rfl
theorem jzek A(c s:Nat)(xs:LN)w(hc:xs.length<=c)(hxs:∀d∈xs,d<B32)(hr:RdT w 168 A (dD xs))(hn:xs.length<=1073741824)(hs:s<32):
  Calls Tryz.prog 220 #[.s A xs.length c,vI s] w fun e w'=>∃(g:Nat) (ls:LN),e=.returned (.s (sA g) xs.length xs.length)/\Row w' g ls/\ls.length=xs.length/\(∀d∈ls,d<B32)/\w.heap.size<=g/\Ext w w'/\Dig.val B32 ls=Dig.val B32 xs/2^s:=by
 have qt:=run_make_row' (P:=Tryz.prog) 36 168 (.int .u32 0) 4 Tryz.underlying36 Tryz.info167 rfl .i64 .i64 xs.length (by omega) (by omega);go_enter Tryz.func220,Tryz.ntmps220;go_wp2;clear qt
 go_loopw [6,7,8] (fun hi it _ wr=>∃(k:Nat) (ls:LN),k<=xs.length/\it=vI (k-1)/\hi=.int .u32 ((xs[k]?.getD 0:Nat):Int)/\ls.length=xs.length/\(∀d∈ls,d<B32)/\
  Dig.val B32 (ls.drop k)=Dig.val B32 (xs.drop k)/2^s/\Row wr w.heap.size ls/\Ext w wr) (fun _ i _ _=>(intOf i+1).toNat)
 (case atStart=>refine⟨xs.length,List.replicate xs.length 0,yX _,rfl,by simp,by simp,fun d hd=>?_,?_,Row.made _ _ rfl,(eR _).alloc _⟩;{have:=uF hd;subst this;exact aY};rw[kQf (yX _),kQf (by simp)];simp[Dig.val]);obtain⟨k,ls,hk,rfl,rfl,qn,qm,qg,qe,hx⟩:=hrel;have HV:=Hx qg;have qi:=Hx qn;clear qg qn;by_cases qp:0<k;{obtain⟨b1,o1,rfl,qu,qa⟩:=hr.rd.u32 (k:=k-1) (by omega);have qA:wr.cell? (aD b1 (o1+(k-1)))=_:=(hx.cell (p:=(aD b1 (o1+(k-1)))) qu).trans (qa (k-1) (by omega));have qz:b1≠w.heap.size:=(by omega);have qC:=qe.cell (i:=k-1) (by have:=qi.o;omega);have qD:=qe.frozen (k-1);have qo:=cJ hxs (k-1);have qw:=cJ hxs k;have qh:=jzej xs hxs k;rw[aT]at qo qw;have qj:=Dig.val_drop' B32 xs (k-1) (by omega);simp only[List.getD]at qj;rw[Nat.sub_add_cancel qp]at qj;generalize hxe:xs[k-1]?.getD 0=x at*;generalize xs[k]?.getD 0=hi at*;generalize ls[k-1]?.getD 0=dk at*;have HX:=Hx hxe;have qk:=Dig.shr_step (D:=Dig.val B32 (xs.drop k)) (kQy (by decide)) (rE s hs) (kQy (by decide)) (show x<B32 by rw[aT];exact qo);rw[qh, <-qj]at qk;have qx:=Hx qk;have qB:=kZ hi x (by omega) (by omega) (by omega) (by omega);have qf:((hi:Int)*4294967296+x)/2^s%4294967296=(((hi*B32+x)/2^s%B32:Nat):Int):=(by rw[aT,Int.natCast_emod,Int.natCast_ediv,kZv,kZk,Int.natCast_pow];rfl);have HC:=Hx qf;clear hxe qa qk qj qh qf;go_wp2;go_roundw;(case rel=>refine⟨k-1,ls.set (k-1) ((hi*B32+x)/2^s%B32),by omega,by go_num,by rw[HX.o],by rw[yV];exact qi.o,Dig.set_lt qm (xT _ aY),?_,?_,Below.setCell hx (by simp) _⟩;{rw[Dig.drop_set_self _ _ _ (by have:=qi.o;omega),Nat.sub_add_cancel qp,Dig.val_cons,HV.o,qx.o]};rw[HC.o];exact qe.sT _ _);simp[intOf];omega};have qy:k=0:=(by omega);subst qy;go_wp2;go_ret;have:=HV.o;rw[List.drop_zero,List.drop_zero]at this;exact⟨w.heap.size,ls,rfl,qe,qi.o,qm,yX _,hx,this⟩
theorem mZ(a un b:LN)(i:Nat)(h:i<un.length):(a++(un++b))[a.length+i]?.getD 0=un[i]?.getD 0:=by
 rw[yS (by omega),Nat.add_sub_cancel_left,yR h]
theorem nA(a un b:LN)(i d:Nat)(h:i<un.length):(a++(un++b)).set (a.length+i) d=a++(un.set i d++b):=by
 rw[List.set_append_right _ _ (by omega),Nat.add_sub_cancel_left,List.set_append_left _ _ h]
theorem uT(y q pc:Nat)(hy:y<4294967296)(hq:q<4294967296)(hp:pc<4294967296):
  (y:Int)*q<=18446744065119617025/\0<=(y:Int)*q/\((pc:Int)+y*q)/4294967296=(((pc+y*q)/B32:Nat):Int)/\((pc:Int)+y*q)%4294967296=(((pc+y*q)%B32:Nat):Int)/\(pc+y*q)/B32<4294967296/\(pc+y*q)%B32<4294967296:=by
 have h1:y*q<=4294967295*4294967295:=kQq (by omega) (by omega);have e:(y:Int)*q=((y*q:Nat):Int):=(by rw[kZk]);rw[e,aT];generalize y*q=P at*;refine⟨by omega,by omega,by omega,by omega,by omega,by omega⟩
theorem nB{a w:World}{g:Nat}(h:a.grownBy w (some g))(k:Nat)(u:Value):a.grownBy (w.setCell (aD g k) u) (some g):=h.trans (bI w g k u)
theorem uU(x y cr:Nat)(hx:x<4294967296)(hy:y<4294967296)(hc:cr<=1):
  ∃d cr':Nat,((x:Int)+y+cr)%4294967296=d/\((x:Int)+y+cr)/4294967296=cr'/\x+y+cr=d+B32*cr'/\d<B32/\cr'<=1:=by
 refine⟨(((x:Int)+y+cr)%4294967296).toNat,(((x:Int)+y+cr)/4294967296).toNat,by omega,by omega,?_,?_,by omega⟩;{rw[aT];omega};rw[aT];omega
theorem jzel{B i x y cr d cr':Nat}{uo un vs:LN}(hv:i<vs.length)(hu:i<uo.length)(hn:i<un.length)(ey:y=vs[i]?.getD 0)(ex:x=uo[i]?.getD 0)(hd:x+y+cr=d+B*cr')
  (h:Dig.val B (un.take i)+B^i*cr=Dig.val B (uo.take i)+Dig.val B (vs.take i)):
  Dig.val B ((un.set i d).take (i+1))+B^(i+1)*cr'=Dig.val B (uo.take (i+1))+Dig.val B (vs.take (i+1)):=by
 rw[Dig.val_take_set B un i _ hn,Dig.val_take_succ' B vs i hv,Dig.val_take_succ' B uo i hu];simp only[List.getD];rw[<-ey, <-ex,vD];have e3:B^i*x+B^i*y+B^i*cr=B^i*d+B^i*B*cr':=(by rw[<-kQc, <-kQc,hd,kQc,kQg]);omega
theorem jzem{B x cr d cr' n V:Nat}{uo un:LN}(hu:n+1=uo.length)(hn:n<un.length)(hl:un.length=uo.length)(ex:x=uo[n]?.getD 0)(hd:x+cr=d+B*cr')
  (h:Dig.val B (un.take n)+B^n*cr=Dig.val B (uo.take n)+V):Dig.val B (un.set n d)+B^(n+1)*cr'=Dig.val B uo+V:=by
 have h1:=Dig.val_take_set B un n d hn;rw[yU (by rw[yV];omega)]at h1;have h2:=Dig.val_take_succ' B uo n (by omega);rw[yU (by omega)]at h2;simp only[List.getD]at h2;rw[h1,h2, <-ex,vD];have e3:B^n*x+B^n*cr=B^n*d+B^n*B*cr':=(by rw[<-kQc,hd,kQc,kQg]);omega
theorem jzen(g:Nat)(a uo b vs:LN)AV(cv q:Nat)w(hrow:Row w g (a++(uo++b)))(hul:uo.length=vs.length+1)(hal:a.length<=1073741824)(huo:∀d∈uo,d<B32)(hvs:∀d∈vs,d<B32)(hv:RdT w 168 AV (dD vs))(hvg:vs≠ []->∀ad,AV=some ad->ad.block≠g)
  (hcv:vs.length<=cv) (hn:vs.length<=1073741824) (hq:q<4294967296) (hV:0<Dig.val B32 vs) (hq1:Dig.val B32 uo/Dig.val B32 vs<=q) (hq2:q<=Dig.val B32 uo/Dig.val B32 vs+1):
  Calls Tryz.prog 219 #[.s (some (aD g a.length)) (vs.length+1) (vs.length+1),.s AV vs.length cv,.int .u32 (q:Int)] w fun e w'=>e=.returned (.int .u32 ((Dig.val B32 uo/Dig.val B32 vs:Nat):Int))/\
   ∃un,Row w' g (a++(un++b))/\un.length=vs.length+1/\(∀d∈un,d<B32)/\Dig.val B32 un=Dig.val B32 uo%Dig.val B32 vs/\w.grownBy w' (some g):=by
 have q2:=Hx hq1;have q8:=Hx hq2;have qH:=Hx hul;have qW:=Hx hV;clear hq1 hq2 hul hV;go_enter Tryz.func219,Tryz.ntmps219;go_wp2
 go_loopw [8,9,10,16] (fun pt bt _ it wr=>∃(i pc br:Nat) (un:LN),i<=vs.length/\it=vI i/\pt=.int .u64 pc/\bt=.int .u32 br/\pc<4294967296/\br<=1/\un.length=vs.length+1/\(∀d∈un,d<B32)/\(∀k,i<=k->un[k]?.getD 0=uo[k]?.getD 0)/\
  Dig.val B32 (un.take i)+q*Dig.val B32 (vs.take i)=Dig.val B32 (uo.take i)+B32^i*(pc+br)/\Row wr g (a++(un++b))/\w.grownBy wr (some g)) (fun _ _ _ i _=>vs.length-(intOf i).toNat)
 (case atStart=>exact⟨0,0,0,uo,yZ _,rfl,rfl,rfl,by decide,by decide,qH.o,huo,fun _ _=>rfl,by simp[Dig.val],hrow,World.grownBy.refl w _⟩);obtain⟨i,pc,br,un,hi,rfl,rfl,rfl,qV,qY,qk,qh,qf,qn,qg,qj⟩:=hrel;have HV:=Hx qn;have qa:=Hx qk;have qt:=Hx qf;clear qn qk qf;by_cases qo:i<vs.length;{obtain⟨b2,o2,rfl,qR,qe⟩:=hv.rd.u32 (k:=i) qo;have qK:b2≠g:=hvg (by rintro rfl;simp at qo) _ rfl;have q5:wr.cell? (aD b2 (o2+i))=_:=(World.cell?_of_block (a:=(aD b2 (o2+i))) (qj.block b2 qR (fun e=>qK (by injection e)))).trans (qe i qo);have qE:=cJ hvs i;rw[aT]at qE;generalize hye:vs[i]?.getD 0=y at*;have HY:=Hx hye;clear hye qe;have qp:=qg.cell (i:=a.length+i) (by have:=qa.o;simp;omega);have qI:=qg.frozen (a.length+i);rw[mZ a un b i (by have:=qa.o;omega),qt.o i (yX _)]at qp;have qm:=cJ huo i;rw[aT]at qm;generalize hxe:uo[i]?.getD 0=x at*;have HX:=Hx hxe;clear hxe;obtain⟨t1,t2,t3,t4,t5,t6⟩:=uT y q pc qE hq qV;have T3:=Hx t3;have T4:=Hx t4;clear t3 t4;(go_wp2_with fail);rw[T4.o];refine(mR _ _ _ _ (by omega) (by omega) (by omega) (by omega) (by omega) (by omega)).mono ?_;rintro e w' ⟨rfl,rfl⟩;obtain⟨d,qJ,ed,eb,qi,qw,qz⟩:=mT x ((pc+y*q)%B32) br qm t6 qY;have EB:=Hx eb;have qL:=Hx qi;rw[ed];clear ed qi;rw[EB.o];clear eb;go_wp2;go_roundw;(case rel=>rw[T3.o];refine⟨i+1,(pc+y*q)/B32,qJ,un.set i d,by omega,by go_num,rfl,rfl,t5,qz,by rw[yV];exact qa.o,Dig.set_lt qh qw,fun k hk=>?_,?_,?_,nB qj _ _⟩;{rw[vN (by omega)];exact qt.o k (by omega)};{exact Dig.red_step qo (by have:=qH.o;omega) (by have:=qa.o;omega) HY.o.symm HX.o.symm qL.o.symm HV.o};rw[<-nA a un b i d (by have:=qa.o;omega)];exact qg.sT _ _);simp[intOf];omega};have qN:i=vs.length:=(by omega);subst qN;rw[yU (yX _)]at HV;have qp:=qg.cell (i:=a.length+vs.length) (by have:=qa.o;simp;omega);have qI:=qg.frozen (a.length+vs.length);rw[mZ a un b vs.length (by have:=qa.o;omega),qt.o vs.length (yX _)]at qp;have qm:=cJ huo vs.length;rw[aT]at qm;generalize hxe:uo[vs.length]?.getD 0=x at*;have HX:=Hx hxe;clear hxe;(go_wp2_with fail);refine(mR _ _ _ _ (by omega) (by omega) (by omega) (by omega) (by omega) (by omega)).mono ?_;rintro e w' ⟨rfl,rfl⟩;obtain⟨d,qJ,ed,eb,qi,qw,qz⟩:=mT x pc br qm qV qY;have HT:=Hx (Dig.red_top (B:=B32) (q:=q) (V:=Dig.val B32 vs) qH.o.symm (by have:=qa.o;omega) (qa.o.trans qH.o.symm) HX.o.symm qi.symm HV.o);rw[ed,eb];clear ed qi eb HV;have qF:Row (wr.setCell (aD g (a.length+vs.length)) (.int .u32 (d:Int))) g (a++(un.set vs.length d++b)):=(by rw[<-nA a un b vs.length d (by have:=qa.o;omega)];exact qg.sT _ _);(have qC:=nB qj (a.length+vs.length) (.int .u32 (d:Int));have qG:∀e∈un.set vs.length d,e<B32:=Dig.set_lt qh qw;have qB:(un.set vs.length d).length=vs.length+1:=(by rw[yV];exact qa.o);have qT:=Hx qF;have qZ:=Hx qC;have qA:=Hx qG;have qy:=Hx qB;clear qF qC qG qB qa qt qh;generalize un.set vs.length d=un2 at*;have q1:qJ=0\/qJ=1:=(by omega);rcases q1 with rfl|rfl);{obtain⟨r1,r2⟩:=Dig.red_none qW.o (by have:=HT.o;rw[kQ8,kQ3]at this;exact this) q2.o;have R1:=Hx r1;have R2:=Hx r2;clear r1 r2;go_wp2;go_ret;exact⟨by rw[<-R1.o];rfl,un2,qT.o,qy.o,qA.o,R2.o,qZ.o⟩};clear qg qj HX;rw[Int.natCast_one];go_wp2;clear qp qI;generalize wr.setCell (aD g (a.length+vs.length)) (.int .u32 (d:Int))=w2 at*
 go_loopw [11,12,64] (fun ct _ it wr=>∃(i cr:Nat) (un:LN),i<=vs.length/\it=vI i/\ct=.int .u32 cr/\cr<=1/\un.length=vs.length+1/\(∀d∈un,d<B32)/\(∀k,i<=k->un[k]?.getD 0=un2[k]?.getD 0)/\
  Dig.val B32 (un.take i)+B32^i*cr=Dig.val B32 (un2.take i)+Dig.val B32 (vs.take i)/\Row wr g (a++(un++b))/\w.grownBy wr (some g)) (fun _ _ i _=>vs.length-(intOf i).toNat)
 (case atStart=>exact⟨0,0,un2,yZ _,rfl,rfl,by decide,qy.o,qA.o,fun _ _=>rfl,by simp[Dig.val],qT.o,qZ.o⟩);obtain⟨i,cr,un,hi,rfl,rfl,q0,qk,qh,qf,qn,qg,qj⟩:=hrel;have HV:=Hx qn;have qa:=Hx qk;have qt:=Hx qf;clear qn qk qf;by_cases qo:i<vs.length
 ·obtain⟨b2,o2,rfl,qR,qe⟩:=hv.rd.u32 (k:=i) qo;have qK:b2≠g:=hvg (by rintro rfl;simp at qo) _ rfl;have q5:wr.cell? (aD b2 (o2+i))=_:=(World.cell?_of_block (a:=(aD b2 (o2+i))) (qj.block b2 qR (fun e=>qK (by injection e)))).trans (qe i qo);have qE:=cJ hvs i;rw[aT]at qE;generalize hye:vs[i]?.getD 0=y at*;have HY:=Hx hye;clear hye qe;have qp:=qg.cell (i:=a.length+i) (by have:=qa.o;simp;omega);have qI:=qg.frozen (a.length+i);rw[mZ a un b i (by have:=qa.o;omega),qt.o i (yX _)]at qp;have qm:=cJ qA.o i;rw[aT]at qm;generalize hxe:un2[i]?.getD 0=x at*;have HX:=Hx hxe;clear hxe;obtain⟨d2,qS,ed,eb,qi,qw,qz⟩:=uU x y cr qm qE q0;have qL:=Hx qi;have ED:=Hx ed;have EB:=Hx eb;clear qi ed eb;have ve:(i:Int)<(vs.length:Int)+1:=(by omega);have vd:(i:Int)<(vs.length:Int):=(by omega);go_wp2;go_region_with ((go_at_call 175;refine(lA _ _ _ _ (by omega) (by omega) (by omega) (by omega) (by omega) (by omega)).mono ?_;rintro e w' ⟨rfl,rfl⟩))
  all_goals
   go_wp2
   go_roundw
   case rel=>
    rw[ED.o,EB.o];refine⟨i+1,qS,un.set i d2,by omega,by go_num,rfl,qz,by rw[yV];exact qa.o,Dig.set_lt qh qw,fun k hk=>?_,?_,?_,nB (g:=g) (w:=wr.drew) ⟨qj.os,qj.tape,qj.output,qj.size,qj.block⟩ _ _⟩
    ·
     rw[vN (by omega)];exact qt.o k (by omega)
    ·
     exact jzel qo (by have:=qy.o;omega) (by have:=qa.o;omega) HY.o.symm HX.o.symm qL.o HV.o
    rw[<-nA a un b i d2 (by have:=qa.o;omega)];exact(qg.drewN 1).sT _ _
   simp[intOf];omega
 have qN:i=vs.length:=(by omega);subst qN;rw[yU (yX _)]at HV;have qp:=qg.cell (i:=a.length+vs.length) (by have:=qa.o;simp;omega);have qI:=qg.frozen (a.length+vs.length);rw[mZ a un b vs.length (by have:=qa.o;omega),qt.o vs.length (yX _)]at qp;have qm:=cJ qA.o vs.length;rw[aT]at qm;generalize hxe:un2[vs.length]?.getD 0=x at*;have HX:=Hx hxe;clear hxe;obtain⟨d2,qS,ed,eb,qi,qw,qz⟩:=uU x 0 cr qm (by omega) q0;rw[Int.natCast_zero,Int.add_zero]at ed;rw[kQ3]at qi;have qX:=Hx (jzem (B:=B32) (V:=Dig.val B32 vs) qy.o.symm (by have:=qa.o;omega) (qa.o.trans qy.o.symm) HX.o.symm qi HV.o);have ED:=Hx ed;have qx:∀e∈un.set vs.length d2,e<B32:=Dig.set_lt qh qw;have qu:(un.set vs.length d2).length=vs.length+1:=(by rw[yV];exact qa.o);have qO:=Dig.val_lt aY qx;rw[qu]at qO;have qM:=Dig.val_lt aY qA.o;rw[qy.o]at qM;have qQ:=Dig.red_back qW.o qM qO (by have:=HT.o;rw[Nat.mul_one]at this;exact this) qX.o qz q8.o;have qU:=Hx qQ;have vg:1<=q:=qQ.1;have qD:Row (wr.setCell (aD g (a.length+vs.length)) (.int .u32 (d2:Int))) g (a++(un.set vs.length d2++b)):=(by rw[<-nA a un b vs.length d2 (by have:=qa.o;omega)];exact qg.sT _ _);have vc:=Hx qD;have q3:=Hx qx;have q6:=Hx qu;have q9:=Hx (nB qj (a.length+vs.length) (.int .u32 (d2:Int)));clear ed eb qi qQ qM qO qx qu qD qX HV;have q7:(vs.length:Int)<(vs.length:Int)+1:=(by omega);go_wp2;go_ret;rw[ED.o];have q4:((q:Int)-1)=((q-1:Nat):Int):=(by omega);exact⟨by rw[<-qU.o.2.1, <-q4];rfl,_,vc.o,q6.o,q3.o,qU.o.2.2,q9.o⟩
theorem uV:∀(f x:Nat),x<2^f->x<2^Lib.bitLenAux f x/\(x≠0->2^Lib.bitLenAux f x<=2*x)
 |0,x,h=>by
  have:x=0:=(by simpa using h);subst this;exact⟨by decide,fun h=>absurd rfl h⟩
 |f+1,x,h=>by
  unfold Lib.bitLenAux
  split
  ·rename_i e;subst e;exact⟨by decide,fun h=>absurd rfl h⟩
  rename_i hx
  have ih:=uV f (x/2) (by rw[vD]at h;omega);rw[kZl,vD];refine⟨by omega,fun _=>?_⟩;by_cases h2:x/2=0
  ·have:Lib.bitLenAux f (x/2)=0:=by
    rw[h2];cases f with
    |zero=>rfl
    |succ f=>simp[Lib.bitLenAux]
   rw[this];omega
  have:=ih.2 h2;omega
theorem jzeo(t:Nat)(h0:0<t)(h1:t<4294967296):∃s:Nat,s<32/\(32-(Lib.bitLen t:Int))=(s:Int)/\(t+1)*2^s<=B32/\B32<=2*(t*2^s):=by
 obtain⟨a1,a2⟩:=uV 64 t (by omega);change t<2^Lib.bitLen t at a1;change t≠0->2^Lib.bitLen t<=2*t at a2;have a3:=a2 (by omega);have hl:Lib.bitLen t<=32:=(by (rcases kQd 32 (Lib.bitLen t)with h|h);{have:=kQk (n:=2) (by decide) (show 33<=Lib.bitLen t from h);have e:(2:Nat)^33=8589934592:=(by decide);omega};exact h);have qa:1<=Lib.bitLen t:=(by (rcases kQm (Lib.bitLen t)with h|h);{rw[h]at a1;omega};exact h);generalize Lib.bitLen t=l at*;have e:2^l*2^(32-l)=B32:=(by rw[<-Nat.pow_add,Nat.add_sub_cancel' hl];rfl);refine⟨32-l,by omega,by omega,?_,?_⟩;{rw[<-e];exact xS _ a1};rw[<-e, <-kQg];exact xS _ a3
structure rF(w w':World)(gu gv gq:Nat)(vs:LN)(nq A k:Nat)(du dq:LN):Prop where
 rowu:Row w' gu du
 rowq:Row w' gq dq
 rowv:Row w' gv vs
 ulen:du.length=nq+vs.length
 qlen:dq.length=nq
 ult:∀d∈du,d<B32
 qlt:∀d∈dq,d<B32
 kle:k<=nq
 val:A=Dig.val B32 (dq.drop k)*B32^k*Dig.val B32 vs+Dig.val B32 du
 low:Dig.val B32 (du.drop k)<Dig.val B32 vs
 r4:Blk w' w.heap.size 38 #[zN]
 r5:Blk w' (w.heap.size+1) 38 #[zN]
 ext:Ext w w'
theorem jzep(A1 A2:OA)(n1 c1 n2 c2 a b:Nat)(w:World)(h1:aB w A1 n1 c1 a)(h2:aB w A2 n2 c2 b)(hn1:n1<=1073741824)(hn2:2<=n2)(hab:b<=a):
  Calls Tryz.prog 178 #[.s A1 n1 c1,.s A2 n2 c2] w fun e w'=>∃(A:OA) (n c:Nat) (A':OA) (n' c':Nat),e=.returned (.tuple #[.agg #[.s A n c],.agg #[.s A' n' c']])/\aB w' A n c (a/b)/\aB w' A' n' c' (a%b)/\Ext w w':=by
 have z4:=aB.len_le h2 h1 hab
 obtain⟨xs,rfl,zs,q7,vP,vS⟩:=h1
 obtain⟨ys,rfl,vV,qN,zq,q5⟩:=h2
 obtain⟨n2,qp⟩:∃n2,ys.length=n2+1:=⟨ys.length-1,by omega⟩
 obtain⟨mq,zm⟩:∃mq,xs.length+1=mq+ys.length:=⟨xs.length+1-ys.length,by omega⟩
 have z0:mq<=1073741825:=by omega
 obtain⟨b2,o2,rfl,qz,qk⟩:=q5.rd.u32 (k:=n2) (by omega)
 have zf:=qk n2 (by omega)
 have vt:=cJ qN.lt n2
 rw[aT]at vt
 have v8:0<ys[n2]?.getD 0:=by
  have:=qN.top
  rw[List.getLast?_eq_getElem?,qp,Nat.add_sub_cancel,yG (by omega)]at this
  rw[yG (by omega)]
  simp at this⊢
  omega
 obtain⟨s,hs,ze,vq,vd⟩:=jzeo (ys[n2]?.getD 0) v8 vt
 obtain⟨zg,vU⟩:=Dig.norm aY qN.lt qp vq vd
 have qH:2^s<=2147483648:=kQk (n:=2) (by decide) (show s<=31 by omega)
 have vY:=run_make_row' (P:=Tryz.prog) 36 168 (.int .u32 0) 4 Tryz.underlying36 Tryz.info167 rfl .i64 .i64 mq (by omega) (by omega)
 rw[show((mq:Nat):Int)=(xs.length:Int)-ys.length+1 by omega]at vY
 have qg:∀W,Ext w W->_:=fun W hW=>uS A1 c1 s (xs.length+1) xs W zs q7.lt (vS.K hW) hn1 hs (.inr rfl)
 have qj:∀W,Ext w W->_:=fun W hW=>uS (some (aD b2 o2)) c2 s ys.length ys W vV qN.lt (q5.K hW) (by omega) hs (.inl rfl)
 simp only[kZv,Int.natCast_one]at qg
 have C1:=Hx (qg)
 have C2:=Hx (qj)
 have zk:=Hx (ze)
 have vc:=Hx (vP)
 have qG:=Hx (zq)
 have zo:=Hx (zg)
 have vF:=Hx (vU)
 have qy:=Hx (qH)
 have qJ:=Hx (qp)
 have qw:=Hx (zm)
 have vZ:=Hx q7.lt
 clear qg qj ze vP zq zg vU qH qp zm vq vd qk vS q5 q7 qN
 generalize hte:ys[n2]?.getD 0=tp at*
 clear hte
 obtain⟨b4,b5,e0⟩:=dS w #[zN] 38 #[zN] 38
 have vi:((ys.length:Int)-1)=(n2:Int):=by have:=qJ.o;omega
 have vj:((w.alloc (.cells #[zN] 38)).alloc (.cells #[zN] 38)).cell? (aD b2 (o2+n2))=some (.int .u32 (tp:Int)):=(e0.cell (p:=(aD b2 (o2+n2))) qz).trans zf
 have q6:(n2:Int)<(ys.length:Int):=by omega
 clear zf
 go_enter Tryz.func178,Tryz.ntmps178
 go_wp2_with fail
 refine(Tryz.bits_LeadingZeros32 _ _ (by omega) (by omega)).mono ?_
 rintro e w' ⟨rfl,rfl⟩
 rw[xL,zk.o]
 clear vj vi q6
 go_wp2_with fail
 refine(C1.o _ e0).mono ?_
 rintro e w1 ⟨gu,us,rfl,rowu,ulen,ult,v4,q4,qE⟩
 have vl:gu<w1.heap.size:=rowu.lt
 have zY:w.heap.size+2<=gu:=by have:=v4;simp at this;omega
 have B4:=Hx (b4.K q4)
 have B5:=Hx (b5.K q4)
 have E1:=Hx (e0.tr q4)
 have RU:=Hx rowu
 have UL:=Hx ulen
 have UT:=Hx ult
 have UV:=Hx qE
 clear b4 b5 e0 q4 rowu ulen ult qE C1
 go_wp2_with fail
 refine(C2.o _ E1.o).mono ?_
 rintro e w2 ⟨gv,vs,rfl,rowv,qD,v9,zT,qB,qR⟩
 have B4:=Hx (B4.o.K qB)
 have B5:=Hx (B5.o.K qB)
 have E2:=Hx (E1.o.tr qB)
 have RU:=Hx (RU.o.K qB)
 have RV:=Hx rowv
 have VL:=Hx qD
 have VT:=Hx v9
 have VV:=Hx qR
 have vG:=RU.o.lt
 have vp:=rowv.lt
 clear qB rowv qD v9 qR C2 E1
 go_wp2
 generalize ys.length=yn at*
 obtain rfl:=VL.o
 have vz:=Hx (show xs.length=mq+n2 by have h1:=qw.o;have h2:=qJ.o;omega)
 have qY:Dig.val B32 vs=b*2^s:=by
  rw[VV.o,qG.o,kQv]
  rw[qJ.o, <-qG.o];exact zo.o
 have vJ:0<2^s:=kQy (by decide)
 have vn:a<B32^(mq+n2):=by rw[<-vc.o, <-vz.o];exact Dig.val_lt aY vZ.o
 have vg:Dig.val B32 us=a*2^s:=by
  rw[UV.o,vc.o,kQv]
  rw[vz.o,vD]
  exact kZb vn (yY qy.o (by decide)) aY
 have qf:Dig.val B32 (us.drop mq)<Dig.val B32 vs:=Dig.low_start aY (by rw[UL.o];have:=qw.o;omega) vg vn (by rw[qY, <-qG.o];exact vF.o) (by have:=qy.o;rw[aT];omega) vJ
 have v6:=Hx (show rF w (w2.alloc (.cells (madeCells #[.int .u32 0] mq) 168)) gu gv w2.heap.size vs mq (a*2^s) mq us (List.replicate mq 0)from
  ⟨RU.o.alloc _,Row.made _ _ rfl,RV.o.alloc _,by rw[UL.o];exact qw.o,by simp,UT.o,fun d hd=>by have:=uF hd;subst this;exact aY,yX _,
   by rw[kQf (by simp),Dig.val_nil,Nat.zero_mul,Nat.zero_mul,kQu];exact vg.symm,qf,B4.o.alloc _,B5.o.alloc _,E2.o.alloc _⟩)
 have vL:gu≠gv:=by omega
 have q8:gu≠w2.heap.size/\gv≠w2.heap.size:=by omega
 have zH:w.heap.size+2<=w2.heap.size:=by omega
 have zt:w.heap.size+2<=gv:=by omega
 have zh:vs.length<=1073741824:=by omega
 have zi:=Hx (show a*2^s/Dig.val B32 vs=a/b/\a*2^s%Dig.val B32 vs=a%b*2^s by
  rw[qY,Nat.mul_div_mul_right _ _ vJ,Nat.mul_mod_mul_right];exact⟨rfl,rfl⟩)
 have zD:mq+vs.length<=1073741825:=by have:=qw.o;omega
 have qK:=Hx (show B32^vs.length<=2*Dig.val B32 vs by rw[qY,qJ.o, <-qG.o];exact vF.o)
 clear vY B4 B5 RU RV UL UT UV E2 vg vn qf vG vp VL qY VV zo vF vc qG qy vZ zk vz v4 vl zT zs vV hn1 z4 qz v8 vt hab qJ
 generalize a*2^s=AA at*
 generalize hgen:w2.heap.size=gq at*
 clear hgen
 generalize w2.alloc (.cells (madeCells #[.int .u32 0] mq) 168)=w3 at*
 go_loopg [11,12,13,14] mq (fun k jt _ _ _ wr=>∃(m:Nat) (du dq:LN),m=k/\jt=vI (m-1)/\rF w wr gu gv gq vs mq AA m du dq)
 case atStart=>exact⟨mq,us,_,rfl,rfl,v6.o⟩
 case round=>
  clear v6
  obtain⟨k,du,dq,rfl,rfl,qa⟩:=hrel
  have xi:=qa.kle
  by_cases xa:0<k
  ·obtain⟨j,rfl⟩:∃j,k=j+1:=⟨k-1,by omega⟩
   rw[show(((j+1:Nat):Int)-1)=(j:Int) by omega]
   obtain⟨n,hn⟩:∃n,vs.length=n+2:=⟨vs.length-2,by omega⟩
   have q3:=qa.ulen
   have za:=qa.qlen
   have zy:=qa.rowu.cell (i:=j+vs.length) (by omega)
   have zE:=qa.rowu.cell (i:=j+vs.length-1) (by omega)
   have xj:=qa.rowu.cell (i:=j+vs.length-2) (by omega)
   have xe:=qa.rowv.cell (i:=vs.length-1) (by omega)
   have z8:=qa.rowv.cell (i:=vs.length-2) (by omega)
   have zX:=cJ qa.ult (j+vs.length)
   have v3:=cJ qa.ult (j+vs.length-1)
   have zp:=cJ qa.ult (j+vs.length-2)
   have zR:=cJ VT.o (vs.length-1)
   have vu:=cJ VT.o (vs.length-2)
   obtain⟨wz,ww,q1,q2,vK,zF,qO⟩:=Dig.digit_facts (j:=j) (by decide) hn2 qa.ult VT.o (by omega) qa.low qK.o
   have hG:Dig.guess B32 (du[j+vs.length]?.getD 0) (du[j+vs.length-1]?.getD 0) (du[j+vs.length-2]?.getD 0) (vs[vs.length-1]?.getD 0) (vs[vs.length-2]?.getD 0)<=4294967295:=Nat.min_le_left _ _
   generalize hgG:Dig.guess B32 (du[j+vs.length]?.getD 0) (du[j+vs.length-1]?.getD 0) (du[j+vs.length-2]?.getD 0) (vs[vs.length-1]?.getD 0) (vs[vs.length-2]?.getD 0)=G at*
   generalize du[j+vs.length]?.getD 0=u0 at*
   generalize du[j+vs.length-1]?.getD 0=u1 at*
   generalize du[j+vs.length-2]?.getD 0=u2 at*
   generalize vs[vs.length-1]?.getD 0=v1 at*
   generalize vs[vs.length-2]?.getD 0=v2 at*
   have GG:=Hx hgG
   have WZ:=Hx wz
   have WW:=Hx ww
   have Q1:=Hx q1
   have Q2:=Hx q2
   have V0:=Hx qO
   have DS:=Hx qa
   have qW:=Hx q3
   have q9:=Hx za
   rw[aT]at zX v3 zp zR vu zF
   clear hgG wz ww q1 q2 qO qa q3 za n hn
   have vw:2147483648<=v1:=by omega
   have vW:=kZ u0 u1 (by omega) (by omega) (by omega) (by omega)
   have j1:((j:Int)+vs.length).toNat=j+vs.length:=by omega
   have j2:((j:Int)+vs.length-1).toNat=j+vs.length-1:=by omega
   have j3:(j:Int)+vs.length<(xs.length:Int)+1:=by have:=qw.o;omega
   have j4:IntKind.i64.wrap ((j:Int)+vs.length)=(j:Int)+vs.length:=IntWalk.i64_in _ (by omega)
   have j5:IntKind.i64.wrap ((j:Int)+vs.length-1)=(j:Int)+vs.length-1:=IntWalk.i64_in _ (by omega)
   have j6:(0:Int)<=(j:Int)+vs.length:=by omega
   have j7:(0:Int)<=(j:Int)+vs.length-1:=by omega
   have j8:(j:Int)+vs.length-1<(xs.length:Int)+1:=by omega
   have j9:(1:Int)<=(j:Int)+vs.length:=by omega
   go_wp2
   go_quiet (fail)
   go_wp2
   clear vW j1 j2 j3 j4 j5 j6 j7 j8 j9 zy zE
   rw[show(u0:Int)*4294967296+u1=((u0*4294967296+u1:Nat):Int) by omega]
   have zZ:u0*4294967296+u1<18446744073709551616:=by omega
   generalize hzz:u0*4294967296+u1=z at*
   have vx:=Hx hzz
   clear hzz
   have zW:z/v1<=z:=kZi _ _
   have z9:z%v1<v1:=xT _ (by omega)
   have ht:(z:Int).tdiv (v1:Int)=((z/v1:Nat):Int):=by rw[Int.tdiv_eq_ediv_of_nonneg (by omega),Int.natCast_ediv]
   have hm:(z:Int).tmod (v1:Int)=((z%v1:Nat):Int):=by rw[Int.tmod_eq_emod_of_nonneg (by omega),Int.natCast_emod]
   have z1:((v1:Int) !=0)=true:=bne_iff_ne.2 (by omega)
   have v5:=kZj z v1
   have zV:=Hx v5
   clear v5
   have zu:=Hx (show z/v1=z/v1 from rfl)
   generalize hQQ:z/v1=qq at*
   generalize hRR:z%v1=rr at*
   have v0:=Hx hQQ
   clear hQQ hRR
   have l1:((vs.length:Int)-1).toNat=vs.length-1:=by omega
   have l2:(0:Int)<=(vs.length:Int)-1:=by omega
   have l3:(vs.length:Int)-1<(vs.length:Int):=by omega
   have l4:IntKind.i64.wrap ((vs.length:Int)-1)=(vs.length:Int)-1:=IntWalk.i64_in _ (by omega)
   have l5:IntKind.u64.wrap (qq:Int)=(qq:Int):=IntWalk.u64_in _ (by omega)
   have zK:qq<8589934592:=by
    rw[<-v0.o,kZp (by omega)]
    have:8589934592*2147483648<=8589934592*v1:=kQh _ vw
    omega
   have zL:G<=qq:=by
    rw[<-GG.o, <-v0.o, <-vx.o]
    have:=Dig.guess_start (B:=B32) (u0:=u0) (u1:=u1) (u2:=u2) (v1:=v1) (v2:=v2) (by omega) (by rw[aT];exact zp)
    rw[aT]at this⊢
    exact this
   go_quiet (fail)
   go_upto_block 2 with fail
   clear zW ht hm z1 l5 zZ l4 l1 l2 l3
   go_cut [13,14] (fun g _ wx=>g=.int .u64 G/\∃m,wx=wr.drewN m)
   case first=>
    have zj:0<v1*B32+v2:=by have:=Nat.mul_pos (show 0<v1 by omega) aY;omega
    have VB:=Hx zj
    clear zj
    go_wp2
    go_loopg [13,14] qq (fun k gt rt wi=>∃g r:Nat,g=k/\gt=.int .u64 g/\rt=.int .u64 r/\g*v1+r=z/\G<=g/\r<4294967296/\g<8589934592/\∃m,wi=wr.drewN m)
    case atStart=>exact⟨qq,rr,rfl,rfl,rfl,by rw[vE];exact zV.o,zL,by omega,zK,_,rfl⟩
    case round=>
     obtain⟨g,r,rfl,rfl,rfl,qQ,zB,hr,hg,m,rfl⟩:=hrel
     have qn:=Hx (show g*v1+r=u0*B32+u1 by rw[qQ, <-vx.o,aT])
     clear qQ
     go_upto_region 11 with fail
     go_cut [104] (fun b wx=>b=.bool (decide (4294967296<=g\/r*4294967296+u2<g*v2))/\∃m,wx=wr.drewN m)
     case first=>
      by_cases z7:4294967296<=g
      ·have z2:decide ((4294967296:Int)<=(g:Int))=true:=by simp;omega
       go_quiet (fail)
       go_wp2
       go_meet
       exact⟨by simp[z7],_,World.drewN_drewN _ _ _⟩
      ·have z2:decide ((4294967296:Int)<=(g:Int))=false:=by simp;omega
       obtain⟨p1,p2,_⟩:=uT g v2 0 (by omega) vu (by decide)
       have p3:IntKind.u64.wrap ((g:Int)*v2)=(g:Int)*v2:=IntWalk.u64_in _ (by omega)
       have p4:IntKind.u64.wrap ((r:Int)*4294967296)=(r:Int)*4294967296:=IntWalk.u64_in _ (by omega)
       have vW:=kZ r u2 (by omega) (by omega) (by omega) (by omega)
       have k1:((j:Int)+vs.length-2).toNat=j+vs.length-2:=by omega
       have k2:(0:Int)<=(j:Int)+vs.length-2:=by omega
       have k3:(j:Int)+vs.length-2<(xs.length:Int)+1:=by have:=qw.o;omega
       have k4:IntKind.i64.wrap ((j:Int)+vs.length-2)=(j:Int)+vs.length-2:=IntWalk.i64_in _ (by omega)
       have k5:IntKind.i64.wrap ((j:Int)+vs.length)=(j:Int)+vs.length:=IntWalk.i64_in _ (by omega)
       have k6:((vs.length:Int)-2).toNat=vs.length-2:=by omega
       have k7:(0:Int)<=(vs.length:Int)-2:=by omega
       have k8:(vs.length:Int)-2<(vs.length:Int):=by omega
       have k9:IntKind.i64.wrap ((vs.length:Int)-2)=(vs.length:Int)-2:=IntWalk.i64_in _ (by omega)
       have xf:(2:Int)<=(vs.length:Int):=by omega
       have xh:(2:Int)<=(j:Int)+vs.length:=by omega
       go_quiet (fail)
       go_wp2
       go_meet
       refine⟨?_,_,World.drewN_drewN _ _ _⟩
       congr 1
       rw[decide_eq_decide]
       have e:(g:Int)*v2=((g*v2:Nat):Int):=by rw[kZk]
       rw[e]
       omega
     case rest=>
      obtain⟨rfl,m2,rfl⟩:=hcut
      by_cases hc:4294967296<=g\/r*4294967296+u2<g*v2
      ·have qC:decide (4294967296<=g\/r*4294967296+u2<g*v2)=true:=yO hc
       have qL:=Dig.guess_more (u2:=u2) (v2:=v2) aY VB.o qn.o (by rw[aT];exact hc)
       rw[GG.o]at qL
       have vT:=Hx (show(g-1)*v1+(r+v1)=u0*B32+u1 by
        rw[<-qn.o]
        have:g*v1=(g-1)*v1+v1:=by
         have e:g=(g-1)+1:=by omega
         rw[e,xP,xQ, <-e]
        omega)
       rw[qC]
       clear hc qC qn
       have xd:1<=g:=by omega
       by_cases hb:4294967296<=r+v1
       ·have vh:=Dig.guess_break (u2:=u2) VB.o vT.o vK (by rw[aT];exact v3) (by rw[aT];exact vu) (by rw[aT];exact hb) (by rw[GG.o];omega)
        rw[GG.o]at vh
        have z6:=Hx vh.2
        have zv:decide ((4294967296:Int)<=(r:Int)+v1)=true:=by simp;omega
        clear vh
        have HB:=Hx hb
        clear hb
        go_wp2
        go_meet
        refine⟨?_,_,rfl⟩
        rw[<-z6.o,show((g-1:Nat):Int)=(g:Int)-1 by omega]
       ·have zv:decide ((4294967296:Int)<=(r:Int)+v1)=false:=by simp;omega
        have HB:=Hx hb
        clear hb
        go_wp2
        have hb:=HB.o
        go_roundg (g-1)
        case measure=>omega
        case rel=>exact⟨g-1,r+v1,rfl,by rw[show((g-1:Nat):Int)=(g:Int)-1 by omega],rfl,by rw[vT.o, <-vx.o,aT],by omega,by omega,by omega,_,rfl⟩
      ·have qC:decide (4294967296<=g\/r*4294967296+u2<g*v2)=false:=yP hc
       have ve:=Dig.guess_done (u2:=u2) (v2:=v2) VB.o qn.o (by rw[aT];omega) (by rw[aT];omega) (by rw[GG.o];exact zB)
       rw[GG.o]at ve
       have zA:=Hx ve
       rw[qC]
       clear hc qC ve
       go_wp2
       go_meet
       exact⟨by rw[zA.o],_,rfl⟩
   case rest=>
    obtain⟨rfl,m,rfl⟩:=hcut
    have qi:=jzen gu (du.take j) ((du.drop j).take (vs.length+1)) (du.drop (j+vs.length+1)) vs (sA gv) vs.length G (wr.drewN m) (by rw[<-Dig.split3];exact DS.o.rowu)
     (by rw[xF,List.length_drop];have:=qW.o;omega) (by rw[xF];omega) (fun d hd=>DS.o.ult d (List.mem_of_mem_drop (xM hd))) VT.o DS.o.rowv.rdT (fun _ ad e=>by injection e with e;subst e;exact vL.symm) (yX _) (by omega) (by omega) V0.o Q1.o Q2.o
    rw[show(du.take j).length=j by rw[xF];have:=qW.o;omega]at qi
    have HC:=Hx qi
    have zC:j+vs.length+1<=xs.length+1:=by have:=qw.o;omega
    clear qi
    go_wp2_with fail
    rw[show j+vs.length+1-j=vs.length+1 by omega]
    refine HC.o.mono ?_
    rintro e w5 ⟨rfl,un,qu,vy,qS,vQ,qA⟩
    have qx:wr.grownBy w5 (some gu):=⟨qA.os,qA.tape,qA.output,qA.size,qA.block⟩
    have qe:∀{gg:Nat} {ty:TypeId} {cs:Array Value},gg≠gu->Blk wr gg ty cs->Blk w5 gg ty cs:=fun hg hb=>(qx.block _ hb.lt (fun e=>hg (by injection e))).trans hb
    have qU:Row w5 gq dq:=qe q8.1.symm DS.o.rowq
    have cq:=qU.cell (i:=j) (by have:=q9.o;omega)
    have fq:=qU.frozen j
    obtain⟨d1,d2⟩:=Dig.div_step (j:=j) (n:=vs.length) (dq:=dq) rfl (by have:=qW.o;omega) (by have:=q9.o;omega) V0.o DS.o.val WZ.o WW.o vy vQ
    have qM:Dig.val B32 ((du.drop j).take (vs.length+1))/Dig.val B32 vs<B32:=kQ2 Q1.o (show G<B32 by rw[aT];omega)
    have vR:Ext w w5:=Below.grown DS.o.ext qx DS.o.ext.size (fun k hk=>by injection hk with hk;omega)
    generalize Dig.val B32 ((du.drop j).take (vs.length+1))/Dig.val B32 vs=Q at*
    have DN:=Hx (show rF w (w5.setCell (aD gq j) (.int .u32 (Q:Int))) gu gv gq vs mq AA j (du.take j++(un++du.drop (j+vs.length+1))) (dq.set j Q)from
     ⟨qu.far (p:=(aD gq j)) q8.1 _,qU.sT j Q,(qe vL.symm DS.o.rowv).far (p:=(aD gq j)) q8.2 _,
      by simp only[yQ,xF,List.length_drop,vy];have:=qW.o;omega,by rw[yV];exact q9.o,
      fun d hd=>by
       rcases xY.1 hd with h|h
       ·exact DS.o.ult d (xM h)
       ·rcases xY.1 h with h|h
        ·exact qS d h
        ·exact DS.o.ult d (List.mem_of_mem_drop h),
      Dig.set_lt DS.o.qlt qM,by omega,d1,d2,Blk.far (p:=(aD gq j)) (qe (by omega) DS.o.r4) (by simp only;omega) _,Blk.far (p:=(aD gq j)) (qe (by omega) DS.o.r5) (by simp only;omega) _,Ext.sT vR (p:=(aD gq j)) (by simp only;omega) _⟩)
    clear qu vy qS vQ qA qx qe qU d1 d2 qM vR HC
    generalize dq[j]?.getD 0=qo at*
    go_wp2
    go_roundg j
    case measure=>omega
    case rel=>exact⟨j,_,_,rfl,rfl,DN.o⟩
  ·have hk:k=0:=by omega
   subst hk
   have qt:=qa.val
   have qf:=qa.low
   rw[List.drop_zero,Nat.pow_zero,Nat.mul_one]at qt
   rw[List.drop_zero]at qf
   have qO:0<Dig.val B32 vs:=by omega
   have v7:Dig.val B32 dq=a/b:=by
    rw[<-zi.o.1,qt,kZl,Nat.add_mul_div_right _ _ qO,Nat.div_eq_of_lt qf,kQu]
   have zc:Dig.val B32 du=a%b*2^s:=by
    rw[<-zi.o.2,qt,kZl,Nat.add_mul_mod_self_right,kQv qf]
   have q3:=qa.ulen
   have vm:=Dig.val_lt aY VT.o
   have zd:Dig.val B32 (du.take vs.length)=a%b*2^s:=by
    have h1:=Dig.val_split' B32 du vs.length (by omega)
    rcases kQm (Dig.val B32 (du.drop vs.length))with e|e
    ·rw[e,kQ8,kQ3]at h1
     rw[<-h1];exact zc
    ·exfalso
     have:=kQh (B32^vs.length) (show 1<=Dig.val B32 (du.drop vs.length)from e)
     omega
   have q0:(du.take vs.length).length=vs.length:=by rw[xF];omega
   have qV:∀W,Ext wr W->_:=fun W hW=>jzek (sA gu) vs.length s (du.take vs.length) W (by rw[q0];exact yX _) (fun d hd=>qa.ult d (xM hd)) (by rw[uG];exact(qa.rowu.rdT.take _).K hW) (by rw[q0];omega) hs
   rw[q0]at qV
   rw[zd,Nat.mul_div_cancel _ vJ]at qV
   have SR:=Hx qV
   have DS:=Hx qa
   have QD:=Hx v7
   have zC:vs.length<=xs.length+1:=by have:=qw.o;omega
   have vq:(0:Int)<=(vs.length:Int):=by omega
   have vd:(vs.length:Int)<=(xs.length:Int)+1:=by omega
   have qh:=qa.r4
   have qm:=qa.r5
   clear qt qf qO v7 zc vm zd q0 qV qa q3
   go_wp2
   have qh:Blk wr.drew _ _ _:=qh
   have qm:Blk wr.drew _ _ _:=qm
   have zS:Hid (Ext w wr.drew):=DS.o.ext.drewN 1
   have zM:Hid (Ext wr wr.drew):=(eR wr).drewN 1
   have RQ:Hid (Row wr.drew gq dq):=DS.o.rowq
   have zn:True:=trivial
   go_region_held3 (fun _=>True) (trivial) (first
    |(go_at_call 137;have _t:=zn;refine(fX (sA gq) mq mq dq _ DS.o.qlen (yX _) (by omega) DS.o.qlt RQ.o.rdT).mono ?_;rintro e w5 ⟨A5,n5,c5,rfl,zU,qT⟩;clear zn;have qh:=qh.K qT;have qm:=qm.K qT;have zG:=Hx (zS.o.tr qT);have zI:=Hx (zM.o.tr qT))
    |(go_at_call 220;refine(SR.o _ zI.o).mono ?_;rintro e w6 ⟨g6,zz,rfl,vk,qF,zP,xg,qX,qI⟩;have qh:=qh.K qX;have qm:=qm.K qX;have zJ:=Hx (zG.o.tr qX);have zO:=Hx (zU.K qX);have vo:=Hx qF;have vH:=Hx qI;clear qF qI)
    |(go_at_call 137;refine(fX (sA g6) vs.length vs.length zz _ vo.o (yX _) (by omega) zP vk.rdT).mono ?_;rintro e w7 ⟨A7,n7,c7,rfl,z3,qZ⟩;have qh:=qh.K qZ;have qm:=qm.K qZ;have zQ:=Hx (zJ.o.tr qZ);have zw:=Hx (zO.o.K qZ);obtain⟨d2,f2⟩:=qh.one;obtain⟨d3,f3⟩:=qm.one))
   go_wp2
   have e1:aB w7 A5 n5 c5 (a/b):=by have:=zw.o;rw[QD.o]at this;exact this
   have e2:aB w7 A7 n7 c7 (a%b):=by have:=z3;rw[vH.o]at this;exact this
   have z5:=(qh.sT 0 (.s A5 n5 c5)).far (p:=(aD (w.heap.size+1) 0)) (by first|(simp;omega)|simp) (.s A7 n7 c7)
   have qz:=(qm.far (p:=(aD w.heap.size 0)) (by first|(simp;omega)|simp) (.s A5 n5 c5))
   refine bodyPost_ret (v:=.tuple #[.agg #[.s A5 n5 c5],.agg #[.s A7 n7 c7]]) (by simp[results,Tryz.results178,go_sem,z5.cell,(qz.sT 0 _).cell]) rfl
    ⟨_,_,_,_,_,_,rfl,?_,?_,?_⟩
   ·exact(e1.sT (p:=(aD w.heap.size 0)) qh (by decide) _).sT (p:=(aD (w.heap.size+1) 0)) qz (by decide) _
   ·exact(e2.sT (p:=(aD w.heap.size 0)) qh (by decide) _).sT (p:=(aD (w.heap.size+1) 0)) qz (by decide) _
   ·exact((zQ.o.sT (by first|(simp;omega)|simp) _).sT (by first|(simp;omega)|simp) _)
theorem jzeq A(n c N:Nat)w(h:aB w A n c N):
  Calls Tryz.prog 177 #[.agg #[.s A n c]] w fun e w'=>∃(x:Int) (ok:Bool),e=.returned (.tuple #[.int .u64 x,.bool ok])/\Ext w w':=by
 rcases kQd N 18446744073709551616 with hN|hN
 ·exact(fY A n c N w h hN).mono fun e w' ⟨h1,h2⟩=>⟨_,_,h1,h2⟩
 exact(lC A n c N w h hN).mono fun e w' ⟨h1,h2⟩=>⟨_,_,h1,h2⟩
theorem iX{w:World}{p q:Addr}{u v:Value}(h:w.cell? p=some v)(hne:p.block≠q.block):(w.setCell q u).cell? p=some v:=(World.cell?_setCell_other w q p u (fun e=>hne (by rw[e]))).trans h
def rG(w:World)(a b:Nat)(p r:Value)(wx:World):Prop:=
 ∃(A:OA) (n c gx:Nat),p=.pointer (sA gx)/\r=.int .u32 ((a%b:Nat):Int)/\w.heap.size+1+1+1<gx/\Blk wx gx 38 #[.s A n c]/\aB wx A n c (a/b)/\Blk wx (w.heap.size+1+1) 38 #[zN]/\Blk wx (w.heap.size+1+1+1) 38 #[zN]/\Ext w wx
theorem jzer A1 A2(n1 c1 n2 c2 a b:Nat)w(h1:aB w A1 n1 c1 a)(h2:aB w A2 n2 c2 b)(hn1:n1<=1073741824)(hb0:0<b)(hab:b<=a)(ha:18446744073709551616<=a):
  Calls Tryz.prog 125 #[.agg #[.s A1 n1 c1],.agg #[.s A2 n2 c2]] w (mU w (a/b) (a%b)):=by
 have H1:=Hx h1;have H2:=Hx h2;have z2:((n2:Int)==0)=false:=(by have:=h2.eq_zero;exact yK.2 (by omega));have qX:n2≠0:=(by have:=h2.eq_zero;omega);have hq:0<=bM a b:=(by unfold bM;rw[if_neg (by omega)];split <;> omega);have HA:=Hx ha;have qU:=Hx hab;have qD:=Hx hb0;clear h1 h2 ha hab hb0;go_enter Tryz.func125,Tryz.ntmps125;(go_wp2_with fail);refine(cF A2 n2 c2 _).mono ?_;rintro e w1 ⟨rfl,qy⟩;obtain⟨qf,qa,qj,qi,e0⟩:=pJ w #[.s A1 n1 c1] 38 #[.s A2 n2 c2] 38 #[zN] 38 #[zN] 38;have HX:=Hx (e0.tr qy);have qf:=qf.K qy;have qa:=qa.K qy;have qj:=qj.K qy;have qi:=qi.K qy;have ca:=qf.one.1;have cb:=qa.one.1;clear e0 qy;(go_wp2_with fail);refine(gT A1 A2 n1 c1 n2 c2 a b _ (H1.o.K HX.o) (H2.o.K HX.o) (by omega)).mono ?_;rintro e w2 ⟨rfl,qu⟩;generalize bM a b=q at*;have qf:=qf.K qu;have qa:=qa.K qu;have qj:=qj.K qu;have qi:=qi.K qu;have qJ:=Hx (HX.o.tr qu);have ca:=qf.one.1;have cb:=qa.one.1;clear qu HX;(go_wp2_with fail);refine(lC A1 n1 c1 a _ (H1.o.K qJ.o) HA.o).mono ?_;rintro e w3 ⟨rfl,qx⟩;have qf:=qf.K qx;have qa:=qa.K qx;have qj:=qj.K qx;have qi:=qi.K qx;have qE:=Hx (qJ.o.tr qx);have ca:=qf.one.1;have cb:=qa.one.1;clear qx qJ;(go_wp2_with fail);refine(jzeq A2 n2 c2 b _ (H2.o.K qE.o)).mono ?_;rintro e w4 ⟨x,ok,rfl,qw⟩;have qf:=qf.K qw;have qa:=qa.K qw;have qj:=qj.K qw;have qi:=qi.K qw;have qg:=Hx (qE.o.tr qw);obtain⟨ca,_⟩:=qf.one;obtain⟨cb,_⟩:=qa.one;have BR:=Hx qj;have BS:=Hx qi;have BA:=Hx qf;have BB:=Hx qa;clear qw qE qj qi qf qa;by_cases q4:n2=1
 ·subst q4;have qB:((((1:Nat):Int))==1)=true:=rfl;obtain⟨ys,qR,q3,qn,qN,qO⟩:=H2.o;obtain⟨b2,o2,rfl,qk,qh⟩:=qO.rd.u32 (k:=0) (by omega);have qp:ys[0]?.getD 0=b:=(by obtain⟨y,rfl⟩:∃y,ys=[y]:=List.length_eq_one_iff.1 qR;rw[<-qN];simp[Dig.val]);have qI:b<4294967296:=(by rw[<-qp, <-aT];exact cJ qn.lt 0);have cy:w4.cell? (aD b2 o2)=some (.int .u32 (b:Int)):=(by have:=(qg.o.cell (p:=(aD b2 (o2+0))) qk).trans (qh 0 (by omega));rw[qp]at this;exact this);have qG:b2<w4.heap.size:=yL qk qg.o.size;clear qR q3 qn qN qO qh qp;(go_upto_region 10 with fail);go_cut [11,12] (rG w a b)
  case first=>
   have W0:Hid (Ext w4 w4.drew):=Hx ((eR w4).drewN 1);have WA:Hid (Ext w4 (w4.alloc (.cells #[zN] 38)).drew):=Hx (((eR w4).alloc _).drewN 1);have BN:Hid (Blk (w4.alloc (.cells #[zN] 38)).drew w4.heap.size 38 #[zN]):=Hx (eN w4 _ _);have qW:=ca;have q0:=cb;have qZ:=cy
   go_region_held3 (fun w'=>w'.cell? (aD w.heap.size 0)=some (.s A1 n1 c1)/\w'.cell? (aD (w.heap.size+1) 0)=some (.s (some (aD b2 o2)) 1 c2)/\w'.cell? (aD b2 o2)=some (.int .u32 (b:Int)))
    (first|exact⟨ca,cb,cy⟩|exact⟨rB ca _,rB cb _,rB cy _⟩|exact⟨iX ca (kQb BA.o.lt),iX cb (kQb BB.o.lt),iX cy (kQb qG)⟩)
    (first
     |(go_at_call 95
       refine(pI A1 n1 c1 a b _ (by exact H1.o.K (qg.o.tr W0.o)) hn1 qD.o qI).mono ?_;rintro e w5 ⟨A5,n5,c5,rfl,qm,qe⟩;have X5:=Hx (W0.o.tr qe);have R5:=Hx qm;have ca:=(X5.o.cell (p:=(aD w.heap.size 0)) BA.o.lt).trans ca;have cb:=(X5.o.cell (p:=(aD (w.heap.size+1) 0)) BB.o.lt).trans cb;have cy:=(X5.o.cell (p:=(aD b2 o2)) qG).trans cy;have qS:=Hx (show rG w a b (.pointer (sA w5.heap.size)) (.int .u32 ((a%b:Nat):Int)) (w5.alloc (.cells #[.s A5 n5 c5] 38))from
        ⟨A5,n5,c5,w5.heap.size,rfl,rfl,(BS.o.K X5.o).lt,eN _ _ _,R5.o.K ((eR _).alloc _),(BR.o.K X5.o).alloc _,(BS.o.K X5.o).alloc _,(qg.o.tr X5.o).alloc _⟩)
       clear qe qm)
     |(go_at_call 95
       refine(pI A1 n1 c1 a b _ (by exact H1.o.K (qg.o.tr WA.o)) hn1 qD.o qI).mono ?_;rintro e w5 ⟨A5,n5,c5,rfl,qm,qe⟩;have X5:=Hx (WA.o.tr qe);have R5:=Hx qm;have qF:=Hx (BN.o.K qe);obtain⟨cn,fn⟩:=qF.o.one;have ca:=(X5.o.cell (p:=(aD w.heap.size 0)) BA.o.lt).trans qW;have cb:=(X5.o.cell (p:=(aD (w.heap.size+1) 0)) BB.o.lt).trans q0;have cy:=(X5.o.cell (p:=(aD b2 o2)) qG).trans qZ;have qS:=Hx (show rG w a b (.pointer (sA w4.heap.size)) (.int .u32 ((a%b:Nat):Int)) (w5.setCell (aD w4.heap.size 0) (.s A5 n5 c5))from
        ⟨A5,n5,c5,w4.heap.size,rfl,rfl,BS.o.lt,qF.o.sT 0 _,R5.o.sT (p:=(aD w4.heap.size 0)) qF.o (by decide) _,(BR.o.K X5.o).far (p:=(aD w4.heap.size 0)) (by have:=BR.o.lt;simp only;omega) _,(BS.o.K X5.o).far (p:=(aD w4.heap.size 0)) (by have:=BS.o.lt;simp only;omega) _,Ext.sT (qg.o.tr X5.o) (p:=(aD w4.heap.size 0)) (by have:=qg.o.size;simp only;omega) _⟩)
       clear qe qm))
   all_goals
    go_wp2;go_meet;exact qS.o
  obtain⟨A5,n5,c5,gx,rfl,rfl,q8,bx,r5,br,bs,qe⟩:=hcut;have cx:=bx.one.1;obtain⟨d2,f2⟩:=br.one;obtain⟨d3,f3⟩:=bs.one;have q9:a%b<4294967296:=Nat.lt_trans (xT _ qD.o) qI;have R5:=Hx r5;have qo:=Hx br;have qz:=Hx bs;have q5:=Hx bx;have X5:=Hx qe;clear r5 br bs qe bx BR BS BA BB qg;generalize hrm:a%b=rm at*;clear hrm;have vc:IntKind.u64.wrap (rm:Int)=(rm:Int):=IntWalk.u64_in _ (by omega);have qA:gx≠w.heap.size+1+1:=(by omega);have qH:gx≠w.heap.size+1+1+1:=(by omega);go_wp2
  go_region_held3 (fun w'=>w'.cell? (aD gx 0)=some (.s A5 n5 c5)) (first|exact cx|exact iX cx qA|exact iX (iX cx qA) qH)
   (first
    |(go_at_call 126
      refine(gR _ _ (by omega) (by omega)).mono ?_;rintro e w6 ⟨A6,n6,c6,rfl,qC,qV⟩;have X6:Hid (Ext wc w6):=Hx (((eR wc).drewN 1).tr qV);have cx:=(q5.o.K X6.o).one.1;obtain⟨d2,f2⟩:=(qo.o.K X6.o).one;obtain⟨d3,f3⟩:=(qz.o.K X6.o).one))
  go_wp2;have e1:aB w6 A5 n5 c5 (a/b):=R5.o.K X6.o;have e2:aB w6 A6 n6 c6 rm:=qC;have qt:=qo.o.K X6.o;have qK:=qz.o.K X6.o;have qB:=(qt.sT 0 (.s A5 n5 c5)).far (p:=(aD (w.heap.size+1+1+1) 0)) (by first|(simp;omega)|simp) (.s A6 n6 c6);have qk:=(qK.far (p:=(aD (w.heap.size+1+1) 0)) (by first|(simp;omega)|simp) (.s A5 n5 c5));have qL:=X5.o.tr X6.o;refine bodyPost_ret (v:=.tuple #[.agg #[.s A5 n5 c5],.agg #[.s A6 n6 c6],vI 0]) (by simp[results,Tryz.results125,go_sem,qB.cell,(qk.sT 0 _).cell]) rfl
   ⟨_,_,_,_,_,_,rfl,?_,?_,?_⟩
  {exact(e1.sT (p:=(aD (w.heap.size+1+1) 0)) qt (by decide) _).sT (p:=(aD (w.heap.size+1+1+1) 0)) qk (by decide) _};{exact(e2.sT (p:=(aD (w.heap.size+1+1) 0)) qt (by decide) _).sT (p:=(aD (w.heap.size+1+1+1) 0)) qk (by decide) _};exact((qL.sT (by first|(simp;omega)|simp) _).sT (by first|(simp;omega)|simp) _)
 have qB:((n2:Int)==1)=false:=yK.2 (by omega);(go_wp2_with fail);refine(jzep A1 A2 n1 c1 n2 c2 a b _ (H1.o.K qg.o) (H2.o.K qg.o) hn1 (by omega) qU.o).mono ?_;rintro e w5 ⟨A5,n5,c5,A6,n6,c6,rfl,qm,qC,qe⟩;have qo:=Hx (BR.o.K qe);have qz:=Hx (BS.o.K qe);have X5:=Hx (qg.o.tr qe);have R5:=Hx qm;have R6:=Hx qC;clear qe qm qC ca cb qg;obtain⟨b1,b2,e7⟩:=dS w5 #[.s A5 n5 c5] 38 #[.s A6 n6 c6] 38;generalize hw7:(w5.alloc (.cells #[.s A5 n5 c5] 38)).alloc (.cells #[.s A6 n6 c6] 38)=w7 at*;have qM:=Hx (qo.o.K e7);have qQ:=Hx (qz.o.K e7);obtain⟨d2,f2⟩:=qM.o.one;obtain⟨d3,f3⟩:=qQ.o.one;have p1:=b1.one.1;have p2:=b2.one.1;have q1:w.heap.size+1+1≠w5.heap.size:=(by have:=qo.o.lt;omega);have q2:w.heap.size+1+1≠w5.heap.size+1:=(by have:=qo.o.lt;omega);have q6:=Hx (R5.o.K e7);have qY:=Hx (R6.o.K e7);have X7:=Hx (X5.o.tr e7);clear e7 b1 b2 R5 R6 X5 qo qz;go_wp2;clear hw7;go_region
 all_goals
  go_wp2;have qt:=qM.o;have qK:=qQ.o;have qB:=(qt.sT 0 (.s A5 n5 c5)).far (p:=(aD (w.heap.size+1+1+1) 0)) (by first|(simp;omega)|simp) (.s A6 n6 c6);have qk:=(qK.far (p:=(aD (w.heap.size+1+1) 0)) (by first|(simp;omega)|simp) (.s A5 n5 c5));have qL:=X7.o;refine bodyPost_ret (v:=.tuple #[.agg #[.s A5 n5 c5],.agg #[.s A6 n6 c6],vI 0]) (by simp[results,Tryz.results125,go_sem,qB.cell,(qk.sT 0 _).cell]) rfl
   ⟨_,_,_,_,_,_,rfl,?_,?_,?_⟩
  ·
   exact(q6.o.sT (p:=(aD (w.heap.size+1+1) 0)) qt (by decide) _).sT (p:=(aD (w.heap.size+1+1+1) 0)) qk (by decide) _
  ·
   exact(qY.o.sT (p:=(aD (w.heap.size+1+1) 0)) qt (by decide) _).sT (p:=(aD (w.heap.size+1+1+1) 0)) qk (by decide) _
  exact((qL.sT (by first|(simp;omega)|simp) _).sT (by first|(simp;omega)|simp) _).drewN 1
theorem jzes(x y:Nat)(hy:0<y):gU x y:=fun A1 A2 n1 c1 n2 c2 w h1 h2 hn1 hn2=>by
 (rcases kQd x 18446744073709551616 with hx|hx);{exact pK hy hx A1 A2 n1 c1 n2 c2 w h1 h2 hn1 hn2};{(rcases kQd x y with h|h);{rw[Nat.div_eq_of_lt h,kQv h];exact uJ A1 A2 n1 c1 n2 c2 x y w h1 h2 hn1 h};{exact jzer A1 A2 n1 c1 n2 c2 x y w h1 h2 hn1 hy h hx}}
theorem iY{N D:Nat}(hD:D≠0):pQ N D:=jzdm hD (fun _ x y hy=>jzes x y hy)
theorem jzet{w:World}{B n:Nat}{e:TypeId}{v:Value}{xs:List Value}(h:w.ownsRow B e 1 v n xs):∃A cap,v=.s A n cap:=by
 rcases h.2 with⟨h1,h2⟩|⟨g,cap,_,h2,_⟩
 ·exact⟨none,0,by rw[h1,h2]⟩
 exact⟨_,cap,h2⟩
theorem nC(N:Nat):madeCells #[.bool false] N=(aG (List.replicate N false)).toArray:=by
 apply Array.ext';rw[toList_madeCells_one];simp[aG]
end Go.Proofs.YtllmekijiohgmaaGreatDoor
