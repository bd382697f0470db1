/- Walks, part 10. -/
import Derived.Test.YtojpooidhilnfaaGreatDoorT09
set_option linter.unusedVariables false
set_option linter.unusedSimpArgs false
set_option maxRecDepth 100000
set_option maxHeartbeats 8000000
namespace Go.Proofs.YtojpooidhilnfaaGreatDoor
open Go.Proofs.Tryz
namespace Sx
def sg(j:Nat):Rat:=if j%2=0 then 1 else-1
theorem jzli(j:Nat):sg (j+1)= -sg j:=by
 unfold sg;by_cases h:j%2=0;{rw[qE h,qF qO]};rw[qF h,qE qO];rfl
def sk(j l:Nat):Nat:=if l<j then l else l+1
def mn(a:Nat->Nat->Rat)(j:Nat):Nat->Nat->Rat:=fun i l=>a (i+1) (sk j l)
def dt:Nat->(Nat->Nat->Rat)->Rat
 |0,_=>1
 |m+1,a=>sm (m+1) fun j=>sg j*a 0 j*dt m (mn a j)
theorem gZ(m:Nat)(a:Nat->Nat->Rat):dt (m+1) a=sm (m+1) fun j=>sg j*a 0 j*dt m (mn a j):=rfl
theorem lH:∀(m:Nat) {a b:Nat->Nat->Rat},(∀i,i<m->∀j,j<m->a i j=b i j)->dt m a=dt m b
 |0,_,_,_=>rfl
 |m+1,a,b,h=>by
  rw[gZ,gZ];refine sm_congr _ fun j hj=>?_;have e:dt m (mn a j)=dt m (mn b j):=lH m fun i hi l hl=>h (i+1) qO (sk j l) (by unfold sk;split <;> omega);rw[h 0 qO j hj,e]
def rc(a:Nat->Nat->Rat)(k:Nat)(u:Nat->Rat):Nat->Nat->Rat:=fun i j=>if j=k then u i else a i j
theorem oX(a:Nat->Nat->Rat)(k:Nat)(u:Nat->Rat):mn (rc a k u) k=mn a k:=by
 funext i l;unfold mn rc sk;rw[qF (by split <;> omega)]
def us(j k:Nat):Nat:=if k<j then k else k-1
theorem oY(a:Nat->Nat->Rat){j k:Nat}(u:Nat->Rat)(h:j≠k):mn (rc a k u) j=rc (mn a j) (us j k) (fun i=>u (i+1)):=by
 funext i l;(unfold mn rc sk us;have:((if l<j then l else l+1)=k)↔(l=if k<j then k else k-1):=(by split <;> split <;> omega);by_cases h2:l=if k<j then k else k-1);{rw[qE (this.2 h2),qE h2]};rw[qF (fun h3=>h2 (this.1 h3)),qF h2]
theorem iT(a:Nat->Nat->Rat)(k:Nat)(u:Nat->Rat)(i:Nat):rc a k u i k=u i:=by unfold rc;rw[qE rfl]
theorem hJ(a:Nat->Nat->Rat){j k:Nat}(u:Nat->Rat)(i:Nat)(h:j≠k):rc a k u i j=a i j:=by unfold rc;rw[qF h]
theorem rR:∀(m:Nat) (a:Nat->Nat->Rat) (k:Nat) (u v:Nat->Rat),k<m->dt m (rc a k (fun i=>u i+v i))=dt m (rc a k u)+dt m (rc a k v)
 |0,_,_,_,_,h=>absurd h qO
 |m+1,a,k,u,v,hk=>by
  rw[gZ,gZ,gZ, <-sm_add];refine sm_congr _ fun j hj=>?_;by_cases h:j=k
  ·subst h
   rw[iT,iT,iT,oX,oX,oX];grind
  ·rw[hJ _ _ _ h,hJ _ _ _ h,hJ _ _ _ h,oY _ _ h,oY _ _ h,oY _ _ h,rR m _ _ _ _ (by unfold us;split <;> omega)];grind
theorem uY:∀(m:Nat) (a:Nat->Nat->Rat) (k:Nat) (c:Rat) (u:Nat->Rat),k<m->dt m (rc a k (fun i=>c*u i))=c*dt m (rc a k u)
 |0,_,_,_,_,h=>absurd h qO
 |m+1,a,k,c,u,hk=>by
  rw[gZ,gZ, <-eT];refine sm_congr _ fun j hj=>?_;by_cases h:j=k
  ·subst h
   rw[iT,iT,oX,oX];grind
  ·rw[hJ _ _ _ h,hJ _ _ _ h,oY _ _ h,oY _ _ h,uY m _ _ _ _ (by unfold us;split <;> omega)];grind
theorem jzcm(m:Nat)(a:Nat->Nat->Rat)(k:Nat)(hk:k<m)(c:Nat->Rat)(u:Nat->Nat->Rat):∀n,dt m (rc a k (fun i=>sm n fun l=>c l*u l i))=sm n fun l=>c l*dt m (rc a k (u l))
 |0=>by
  have h:=uY m a k 0 (fun _=>0) hk;have e:(fun i:Nat=>sm 0 fun l=>c l*u l i)=fun i=>(0:Rat)*(fun _:Nat=>(0:Rat)) i:=by
   funext i
   show(0:Rat)=0*0;grind
  rw[e,h];show 0*_=(0:Rat);grind
 |n+1=>by
  have h:=rR m a k (fun i=>sm n fun l=>c l*u l i) (fun i=>c n*u n i) hk;refine Eq.trans h ?_;rw[jzcm m a k hk c u n,uY m a k _ _ hk];rfl
theorem jzlj(n:Nat){f:Nat->Rat}{k l:Nat}(hk:k<n)(hl:l<n)(hkl:k≠l)(h:∀j,j<n->j≠k->j≠l->f j=0):sm n f=f k+f l:=by
 have e:sm n f=sm n fun j=>(if j=k then f k else 0)+(if j=l then f l else 0):=sm_congr n fun j hj=>(by by_cases h1:j=k;{subst h1;rw[qE rfl,qF hkl];grind};by_cases h2:j=l;{subst h2;rw[qF h1,qE rfl];grind};rw[qF h1,qF h2,h j hj h1 h2];grind);rw[e,sm_add,sm_one n hk (fun j _ hj=>by rw[qF hj]),sm_one n hl (fun j _ hj=>by rw[qF hj]),qE rfl,qE rfl]
theorem rS:∀(m:Nat) (a:Nat->Nat->Rat) (k:Nat),k+1<m->(∀i,i<m->a i k=a i (k+1))->dt m a=0
 |0,_,_,h,_=>absurd h qO
 |m+1,a,k,hk,h=>by
  rw[gZ,jzlj (m+1) (k:=k) (l:=k+1) qO hk qO (fun j hj h1 h2=>by
   have:dt m (mn a j)=0:=by
    by_cases h3:k<j
    ·exact rS m _ k qO (fun i hi=>by
     unfold mn sk;rw[qE h3,qE qO];exact h (i+1) qO)
    obtain⟨k',rfl⟩:∃k',k=k'+1:=⟨k-1,qO⟩;exact rS m _ k' qO (fun i hi=>by
     unfold mn sk;rw[qF qO,qF qO];exact h (i+1) qO)
   rw[this];grind)]
  have e:dt m (mn a k)=dt m (mn a (k+1)):=lH m fun i hi l hl=>by
   unfold mn sk;by_cases h1:l<k
   ·rw[qE h1,qE qO]
   by_cases h2:l=k
   ·subst h2
    rw[qF qO,qE qO];exact(h (i+1) qO).symm
   rw[qF h1,qF qO]
  rw[e, <-h 0 qO,jzli];grind
theorem uZ(a:Nat->Nat->Rat){k l:Nat}(u v:Nat->Rat)(h:k≠l):rc (rc a k u) l v=rc (rc a l v) k u:=by
 funext i j;unfold rc;by_cases h1:j=l;{subst h1;rw[qE rfl,qF (fun e=>h e.symm),qE rfl]};rw[qF h1,qF h1]
theorem jzlk(m:Nat)(a:Nat->Nat->Rat)(k:Nat)(hk:k+1<m)(u v:Nat->Rat):dt m (rc (rc a k u) (k+1) v)= -dt m (rc (rc a k v) (k+1) u):=by
 have h0:∀x:Nat->Rat,dt m (rc (rc a k x) (k+1) x)=0:=fun x=>rS m _ k hk fun i _=>(by rw[iT,hJ _ _ _ qO,iT]);have h1:=h0 (fun i=>u i+v i);have ha:∀x:Nat->Rat,dt m (rc (rc a k (fun i=>u i+v i)) (k+1) x)=dt m (rc (rc a k u) (k+1) x)+dt m (rc (rc a k v) (k+1) x):=fun x=>(by rw[uZ a _ x qO,rR m _ k u v qO,uZ a u x qO,uZ a v x qO]);rw[rR m _ (k+1) u v hk,ha,ha,h0,h0]at h1;grind
theorem wD(a:Nat->Nat->Rat)(k:Nat):rc a k (fun i=>a i k)=a:=by
 funext i j;unfold rc;by_cases h:j=k;{rw[qE h,h]};rw[qF h]
theorem wE:∀(n m:Nat) (a:Nat->Nat->Rat) (k:Nat),k+1+n<m->(∀i,i<m->a i k=a i (k+1+n))->dt m a=0
 |0,m,a,k,hk,h=>rS m a k hk h
 |n+1,m,a,k,hk,h=>by
  have e:a=rc (rc a (k+1+n) (fun i=>a i (k+1+n))) (k+1+n+1) (fun i=>a i (k+1+n+1)):=by
   rw[wD];exact(wD a (k+1+n+1)).symm
  rw[e,jzlk m a (k+1+n) hk,wE n m _ k qO (fun i hi=>?_)]
  ·grind
  rw[hJ _ _ _ qO,hJ _ _ _ qO,hJ _ _ _ qO,iT];exact h i hi
theorem jzll(m:Nat)(a:Nat->Nat->Rat){k l:Nat}(hk:k<m)(hl:l<m)(hkl:k≠l)(h:∀i,i<m->a i k=a i l):dt m a=0:=by
 (rcases Nat.lt_or_gt_of_ne hkl with h1|h1);{obtain⟨n,rfl⟩:∃n,l=k+1+n:=⟨l-k-1,qO⟩;exact wE n m a k hl h};obtain⟨n,rfl⟩:∃n,k=l+1+n:=⟨k-l-1,qO⟩;exact wE n m a l hk fun i hi=>(h i hi).symm
theorem jzlm(m:Nat)(a:Nat->Nat->Rat)(k:Nat)(hk:k<m)(c:Nat->Rat)(u:Nat->Rat)(h:∀i,i<m->u i=sm m fun l=>c l*a i l):dt m (rc a k u)=c k*dt m a:=by
 have e:dt m (rc a k u)=dt m (rc a k (fun i=>sm m fun l=>c l*(fun l i=>a i l) l i)):=lH m fun i hi j hj=>(by unfold rc;by_cases h1:j=k;{rw[qE h1,qE h1];exact h i hi};rw[qF h1,qF h1]);rw[e,jzcm m a k hk,sm_one m hk (fun l hl hlk=>by rw[jzll m _ hk hl (fun e=>hlk e.symm) (fun i hi=>by rw[iT,hJ _ _ _ hlk])];grind),wD]
theorem jzcn:∀m,dt m (fun i j=>if i=j then 1 else 0)=1
 |0=>rfl
 |m+1=>by
  rw[gZ,sm_one (m+1) (l:=0) qO (fun j _ hj=>by rw[qF (fun e=>hj e.symm)];grind)];have e:dt m (mn (fun i j=>if i=j then 1 else 0) 0)=dt m (fun i j=>if i=j then 1 else 0):=lH m fun i _ j _=>by
   unfold mn sk;rw[qF qO]
   dsimp only
   by_cases h:i=j
   ·rw[qE h,qE qO]
   ·rw[qF h,qF qO]
  rw[e,jzcn m,qE rfl];unfold sg;rw[qE rfl];grind
def isI(q:Rat):Prop:=∃z:Int,q=(z:Rat)
theorem isI.add{a b:Rat}:isI a->isI b->isI (a+b):=fun⟨x,h⟩ ⟨y,h2⟩=>⟨x+y,by rw[h,h2,Rat.intCast_add]⟩
theorem isI.mul{a b:Rat}:isI a->isI b->isI (a*b):=fun⟨x,h⟩ ⟨y,h2⟩=>⟨x*y,by rw[h,h2,kZu]⟩
theorem isI.neg{a:Rat}:isI a->isI (-a):=fun⟨x,h⟩=>⟨-x,by rw[h,Rat.intCast_neg]⟩
theorem isI.zero:isI 0:=⟨0,rfl⟩
theorem isI.one:isI 1:=⟨1,rfl⟩
theorem isI.sm:∀(n:Nat) {f:Nat->Rat},(∀k,k<n->isI (f k))->isI (sm n f)
 |0,_,_=>isI.zero
 |n+1,_,h=>(isI.sm n fun k hk=>h k qO).add (h n qO)
theorem jzco:∀(m:Nat) {a:Nat->Nat->Rat},(∀i,i<m->∀j,j<m->isI (a i j))->isI (dt m a)
 |0,_,_=>isI.one
 |m+1,a,h=>by
  rw[gZ];refine isI.sm _ fun j hj=>((?_:isI (sg j)).mul (h 0 qO j hj)).mul (jzco m fun i hi l hl=>h (i+1) qO _ (by unfold sk;split <;> omega));unfold sg
  split
  ·exact isI.one
  ·exact isI.one.neg
def ab(q:Rat):Rat:=if q<0 then-q else q
theorem oZ(q:Rat):0<=ab q:=by unfold ab;split <;> grind
theorem jzcp(a b:Rat):ab (a+b)<=ab a+ab b:=by unfold ab;split <;> split <;> split <;> grind
theorem mB(a:Rat):ab (-a)=ab a:=by unfold ab;split <;> split <;> grind
theorem wF(a b:Rat):ab (a*b)=ab a*ab b:=by
 have qa:∀x y:Rat,0<=x->0<=y->ab (x*y)=x*y:=fun x y hx hy=>(by unfold ab;rw[qF (kQ4.2 (vA hx hy))]);(have hp:∀x:Rat,0<=x->ab x=x:=fun x hx=>(by unfold ab;rw[qF (kQ4.2 hx)]);rcases Rat.le_total (a:=0) (b:=a)with h1|h1 <;> rcases Rat.le_total (a:=0) (b:=b)with h2|h2);{rw[qa a b h1 h2,hp a h1,hp b h2]};{have h3:=qa a (-b) h1 qG;rw[<-mB b,hp a h1,hp (-b) qG, <-h3, <-mB];congr 1;grind};{have h3:=qa (-a) b qG h2;rw[<-mB a,hp b h2,hp (-a) qG, <-h3, <-mB];congr 1;grind};have h3:=qa (-a) (-b) qG qG;rw[<-mB a, <-mB b,hp (-a) qG,hp (-b) qG, <-h3];congr 1;grind
theorem wG:∀(n:Nat) (f:Nat->Rat),ab (sm n f)<=sm n fun k=>ab (f k)
 |0,_=>by show ab 0<=0;decide
 |n+1,f=>by
  show ab (sm n f+f n)<=sm n (fun k=>ab (f k))+ab (f n);have h:=jzcp (sm n f) (f n);have h2:=wG n f;grind
def pr:Nat->(Nat->Rat)->Rat
 |0,_=>1
 |n+1,f=>pr n f*f n
theorem jzcq:∀(n:Nat) {f:Nat->Rat},(∀k,k<n->0<=f k)->0<=pr n f
 |0,_,_=>by show(0:Rat)<=1;decide
 |n+1,_,h=>vA (jzcq n fun k hk=>h k qO) (h n qO)
theorem jzcr:∀(n:Nat) {f g:Nat->Rat},(∀k,k<n->f k=g k)->pr n f=pr n g
 |0,_,_,_=>rfl
 |n+1,f,g,h=>by
  show pr n f*f n=pr n g*g n;rw[jzcr n (fun k hk=>h k qO),h n qO]
theorem wH:∀(n:Nat) {f g:Nat->Rat},(∀k,k<n->0<=f k)->(∀k,k<n->f k<=g k)->pr n f<=pr n g
 |0,_,_,_,_=>vC
 |n+1,f,g,h0,h=>by
  show pr n f*f n<=pr n g*g n;have h1:=wH n (fun k hk=>h0 k qO) (fun k hk=>h k qO);have h2:=jzcq n (fun k hk=>h0 k qO);have h3:=h0 n qO;have h4:=h n qO;exact kQs (kQ5 h1 h3) (yT h4 (kQs h2 h1))
theorem jzcs(x y:Nat->Rat)(hx:∀k,0<=x k)(hy:∀k,0<=y k):∀m,(sm (m+1) fun j=>x j*pr m fun l=>y (sk j l))<=pr (m+1) fun j=>x j+y j
 |0=>by
  show 0+x 0*1<=1*(x 0+y 0);have:=hy 0;grind
 |m+1=>by
  have ih:=jzcs x y hx hy m;have e1:sm (m+1+1) (fun j=>x j*pr (m+1) fun l=>y (sk j l))=sm (m+1) (fun j=>(x j*pr m fun l=>y (sk j l))*y (m+1))+x (m+1)*pr (m+1) y:=by
   show sm (m+1) _+_=_
   congr 1
   ·refine sm_congr _ fun j hj=>?_
    show x j*(pr m (fun l=>y (sk j l))*y (sk j m))=_;have:sk j m=m+1:=(by unfold sk;rw[qF qO]);rw[this];grind
   show x (m+1)*(pr (m+1) fun l=>y (sk (m+1) l))=_
   congr 1
   exact jzcr (m+1) fun l hl=>by unfold sk;rw[qE qO]
  rw[e1,uV];show _<=pr (m+1) (fun j=>x j+y j)*(x (m+1)+y (m+1));have h1:=kQ5 ih (hy (m+1));have h2:pr (m+1) y<=pr (m+1) fun j=>x j+y j:=wH _ (fun k _=>hy k) (fun k _=>by have:=hx k;grind);have h3:=yT h2 (hx (m+1));grind
theorem jzln(n:Nat)(f:Nat->Rat):sm (n+1) f=f 0+sm n fun k=>f (k+1):=by
 (induction n with|zero=>show(0:Rat)+f 0=f 0+0;grind|succ n ih=>show sm (n+1) f+f (n+1)=f 0+(sm n (fun k=>f (k+1))+f (n+1));rw[ih];grind)
theorem jzct:∀(m:Nat) (a:Nat->Nat->Rat),ab (dt m a)<=pr m fun j=>sm m fun i=>ab (a i j)
 |0,_=>by show ab 1<=1;decide
 |m+1,a=>by
  have h1:=wG (m+1) fun j=>sg j*a 0 j*dt m (mn a j);have h2:sm (m+1) (fun j=>ab (sg j*a 0 j*dt m (mn a j)))<=sm (m+1) (fun j=>ab (a 0 j)*pr m fun l=>sm m fun i=>ab (a (i+1) (sk j l))):=by
   refine sm_le (m+1) fun j hj=>?_;have h3:ab (sg j)=1:=(by unfold sg;split <;> rfl);have h4:ab (sg j*a 0 j*dt m (mn a j))=ab (a 0 j)*ab (dt m (mn a j)):=(by rw[wF,wF,h3,Rat.one_mul]);rw[h4];exact yT (jzct m (mn a j)) (oZ _)
  have h3:=jzcs (fun j=>ab (a 0 j)) (fun c=>sm m fun i=>ab (a (i+1) c)) (fun k=>oZ _) (fun k=>lG m fun i _=>oZ _) m;have h4:(fun j=>ab (a 0 j)+sm m fun i=>ab (a (i+1) j))=fun j=>sm (m+1) fun i=>ab (a i j):=by
   funext j
   exact(jzln m fun i=>ab (a i j)).symm
  have h5:pr (m+1) (fun j=>ab (a 0 j)+sm m fun i=>ab (a (i+1) j))=pr (m+1) fun j=>sm (m+1) fun i=>ab (a i j):=(by rw[h4]);rw[gZ, <-h5];exact kQs h1 (kQs h2 h3)
def Col(m nv:Nat)(M:Nat->Nat->Rat)(bas:Nat->Nat)(col:Nat->Nat->Rat)(cost:Nat->Rat):Prop:=
 ∀v,v<=nv->(∀i,i<m->col v i=sm m fun l=>M l v*col (bas l) i)/\M m v=(sm m fun l=>M l v*cost (bas l))-cost v
theorem jzcu{m:Nat}{M:Nat->Nat->Rat}{bas:Nat->Nat}{i e:Nat}(hi:i<m)(hp:M i e≠0)(v:Nat)(f:Nat->Rat):(sm m fun l=>piv M i e l v*f (gB bas i e l))=(sm m fun l=>M l v*f (bas l))+(M i v/M i e)*(f e-sm m fun l=>M l e*f (bas l)):=by
 (have e1:(sm m fun l=>piv M i e l v*f (gB bas i e l))=sm m fun l=>((M l v*f (bas l))-(M i v/M i e)*(M l e*f (bas l)))+if l=i then(M i v/M i e)*f e else 0:=sm_congr m fun l _=>(by by_cases h:l=i;{subst h;rw[gC,oW,qE rfl];grind};rw[eB M e v h,nI bas e h,qF h];grind));rw[e1,sm_add,jzcg,eT,sm_one m (f:=fun l=>if l=i then(M i v/M i e)*f e else 0) hi (fun l _ hl=>by rw[qF hl]),qE rfl];grind
theorem Col.pivot{m nv:Nat}{M:Nat->Nat->Rat}{bas:Nat->Nat}{col:Nat->Nat->Rat}{cost:Nat->Rat}(h:Col m nv M bas col cost){i e:Nat}(hi:i<m)(he:e<nv)(hp:M i e≠0):Col m nv (piv M i e) (gB bas i e) col cost:=fun v hv=>by
 have h1:=h v hv;have h2:=h e qO;refine⟨fun j hj=>?_,?_⟩;{rw[jzcu hi hp v fun v=>col v j, <-h1.1 j hj, <-h2.1 j hj];grind};{rw[jzcu hi hp v cost,eB M e v qO,h1.2,h2.2];grind}
def dB(m:Nat)(col:Nat->Nat->Rat)(bas:Nat->Nat):Rat:=dt m fun i l=>col (bas l) i
theorem Col.det{m nv:Nat}{M:Nat->Nat->Rat}{bas:Nat->Nat}{col:Nat->Nat->Rat}{cost:Nat->Rat}(h:Col m nv M bas col cost){k:Nat}(hk:k<m){v:Nat}(hv:v<=nv):dt m (rc (fun i l=>col (bas l) i) k (col v))=M k v*dB m col bas:=
 jzlm m _ k hk (fun l=>M l v) (col v) fun i hi=>(h v hv).1 i hi
theorem Col.det_piv{m nv:Nat}{M:Nat->Nat->Rat}{bas:Nat->Nat}{col:Nat->Nat->Rat}{cost:Nat->Rat}(h:Col m nv M bas col cost){i e:Nat}(hi:i<m)(he:e<nv):dB m col (gB bas i e)=M i e*dB m col bas:=by
 rw[<-h.det hi (show e<=nv by omega)];unfold dB;refine lH m fun k _ l _=>?_;unfold rc gB;by_cases h1:l=i;{rw[qE h1,qE h1]};rw[qF h1,qF h1]
def rT(m nv:Nat)(M:Nat->Nat->Rat)(col:Nat->Nat->Rat)(cost:Nat->Rat):Prop:=
 ∀v,v<=nv->(∀k,k<m->M k v=sm m fun i=>M k i*col v i)/\M m v=(sm m fun i=>M m i*col v i)-cost v
theorem rT.pivot{m nv:Nat}{M:Nat->Nat->Rat}{col:Nat->Nat->Rat}{cost:Nat->Rat}(h:rT m nv M col cost){i:Nat}(e:Nat)(hi:i<m):rT m nv (piv M i e) col cost:=fun v hv=>by
 obtain⟨h1,h2⟩:=h v hv;have qf:∀c:Rat,(sm m fun j=>(M i j/M i e)*col v j)=M i v/M i e:=fun _=>(by have e1:(sm m fun j=>(M i j/M i e)*col v j)=sm m fun j=>(1/M i e)*(M i j*col v j):=sm_congr m fun j _=>qG;rw[e1,eT, <-h1 i hi];grind);have qa:∀k,k≠i->(sm m fun j=>piv M i e k j*col v j)=(sm m fun j=>M k j*col v j)-M k e*(M i v/M i e):=fun k hk=>(by have e1:(sm m fun j=>piv M i e k j*col v j)=sm m fun j=>M k j*col v j-M k e*((M i j/M i e)*col v j):=sm_congr m fun j _=>(by rw[eB M e j hk];grind);rw[e1,jzcg,eT,qf 0]);refine⟨fun k hk=>?_,?_⟩;{by_cases qe:k=i;{subst qe;rw[gC, <-qf 0];exact sm_congr m fun j _=>by rw[gC]};{rw[qa k qe,eB M e v qe, <-h1 k hk]}};{rw[qa m qO,eB M e v qO,h2];grind}
end Sx
namespace Sx
structure Rw where
 co:LQ
 re:Rat
structure Tb where
 rows:List Rw
 bas:LN
 fre:LN
 goal:Rw
 cols:Nat
def at_(l:LQ)(k:Nat):Rat:=l[k]?.getD 0
def atN(l:LN)(k:Nat):Nat:=l[k]?.getD 0
def Tb.row(T:Tb)(i:Nat):Rw:=T.rows[i]?.getD ⟨[],0⟩
theorem rU(n:Nat)(f:Nat->Rat){k:Nat}(hk:k<n):at_ ((List.range n).map f) k=f k:=by
 unfold at_;rw[yW,xJ hk];rfl
def subL(x:LQ)(j:Nat)(f:Rat)(y:LQ)(i:Nat):LQ:=(List.range x.length).map fun k=>if k<i then(if k=j then 0 else at_ x k)-f*at_ y k else(if k=j then 0 else at_ x k)
def subR(r:Rw)(j:Nat)(b:Rw):Rw:=if at_ r.co j=0 then r else⟨subL r.co j (at_ r.co j) b.co r.co.length,r.re-at_ r.co j*b.re⟩
def sclL(x:LQ)(j:Nat)(q:Rat)(i:Nat):LQ:=(List.range x.length).map fun k=>if k<i then(if k=j then 1 else at_ x k)*q else(if k=j then 1 else at_ x k)
def sclR(r:Rw)(j:Nat):Rw:=⟨sclL r.co j (1/at_ r.co j) r.co.length,r.re*(1/at_ r.co j)⟩
def pivT(T:Tb)(i j:Nat):Tb:=
 ⟨(List.range T.rows.length).map (fun k=>if k=i then sclR (T.row i) j else subR (T.row k) j (sclR (T.row i) j)),T.bas.set i (atN T.fre j),T.fre.set j (atN T.bas i),subR T.goal j (sclR (T.row i) j),T.cols⟩
theorem subL_len(x:LQ)(j:Nat)(f:Rat)(y:LQ)(i:Nat):(subL x j f y i).length=x.length:=by unfold subL;simp
theorem sclL_len(x:LQ)(j:Nat)(q:Rat)(i:Nat):(sclL x j q i).length=x.length:=by unfold sclL;simp
theorem jzcv(r:Rw)(j:Nat)(b:Rw):(subR r j b).co.length=r.co.length:=by
 unfold subR;split;{rfl};exact subL_len _ _ _ _ _
theorem jzlo(r:Rw)(j:Nat):(sclR r j).co.length=r.co.length:=sclL_len _ _ _ _
theorem jzcw(r:Rw)(j:Nat)(b:Rw){k:Nat}(hk:k<r.co.length):at_ (subR r j b).co k=(if k=j then 0 else at_ r.co k)-at_ r.co j*at_ b.co k:=by
 unfold subR;split;{rename_i h;rw[h];by_cases e:k=j;{subst e;rw[qE rfl,h];grind};rw[qF e];grind};unfold subL;rw[rU _ _ hk,qE hk]
theorem jzcx(r:Rw)(j:Nat)(b:Rw):(subR r j b).re=r.re-at_ r.co j*b.re:=by
 unfold subR;split;{rename_i h;rw[h];grind};rfl
theorem jzlp(r:Rw)(j:Nat){k:Nat}(hk:k<r.co.length):at_ (sclR r j).co k=(if k=j then 1 else at_ r.co k)/at_ r.co j:=by
 unfold sclR sclL;simp only[];rw[rU _ _ hk,qE hk];grind
theorem jzlq(T:Tb)(i j:Nat):(pivT T i j).rows.length=T.rows.length:=by unfold pivT;simp
theorem jzlr(T:Tb)(i j:Nat){k:Nat}(hk:k<T.rows.length):(pivT T i j).row k=if k=i then sclR (T.row i) j else subR (T.row k) j (sclR (T.row i) j):=by
 unfold pivT;show(((List.range T.rows.length).map _)[k]?).getD _=_;rw[yW,xJ hk];rfl
structure Rep(T:Tb)(m nv:Nat)(M:Nat->Nat->Rat):Prop where
 rl:T.rows.length=m
 bl:T.bas.length=m
 fl:T.fre.length+m=nv
 cl:∀k,k<m->(T.row k).co.length=T.fre.length
 gl:T.goal.co.length=T.fre.length
 fv:∀j,j<T.fre.length->atN T.fre j<nv
 fi:∀j k,j<T.fre.length->k<T.fre.length->atN T.fre j=atN T.fre k->j=k
 fb:∀j l,j<T.fre.length->l<m->atN T.fre j≠atN T.bas l
 co:∀k j,k<m->j<T.fre.length->at_ (T.row k).co j=M k (atN T.fre j)
 go:∀j,j<T.fre.length->at_ T.goal.co j=M m (atN T.fre j)
 re:∀k,k<m->(T.row k).re=M k nv
 gr:T.goal.re=M m nv
 di:gY m nv M (atN T.bas)
theorem iU(l:LN)(i v k:Nat)(hi:i<l.length):atN (l.set i v) k=if k=i then v else atN l k:=by
 unfold atN;by_cases e:k=i;{subst e;rw[qE rfl,yM hi];rfl};rw[qF e,vN (fun h=>e h.symm)]
theorem Rep.pivot{T:Tb}{m nv:Nat}{M:Nat->Nat->Rat}(h:Rep T m nv M){i j:Nat}(hi:i<m)(hj:j<T.fre.length)(hp:at_ (T.row i).co j≠0):Rep (pivT T i j) m nv (Sx.piv M i (atN T.fre j)):=by
 (have qn:i<T.bas.length:=(by rw[h.bl];exact hi);have e1:(pivT T i j).bas=T.bas.set i (atN T.fre j):=rfl;have e2:(pivT T i j).fre=T.fre.set j (atN T.bas i):=rfl;have e3:(pivT T i j).goal=subR T.goal j (sclR (T.row i) j):=rfl;have qe:(pivT T i j).fre.length=T.fre.length:=(by rw[e2,yV]);have qf:∀k,k<m->(pivT T i j).row k=if k=i then sclR (T.row i) j else subR (T.row k) j (sclR (T.row i) j):=fun k hk=>jzlr T i j (by rw[h.rl];exact hk));(have qj:=h.co i j hi hj;rw[qj]at hp;have qm:∀k,k<=m->M k (atN T.bas i)=if k=i then 1 else 0:=h.di.unit i hi);have qk:M i (atN T.bas i)=1:=(by rw[qm i qO,qE rfl]);have qg:=h.cl i hi;have qh:∀k,k<T.fre.length->at_ (sclR (T.row i) j).co k=(if k=j then 1 else M i (atN T.fre k))/M i (atN T.fre j):=fun k hk=>(by rw[jzlp _ _ (by rw[qg];exact hk),qj,h.co i k hi hk]);have qi:(sclR (T.row i) j).re=M i nv/M i (atN T.fre j):=(by show(T.row i).re*(1/at_ (T.row i).co j)=_;rw[qj,h.re i hi];grind);refine⟨by rw[jzlq];exact h.rl,by rw[e1,yV];exact h.bl,by rw[qe];exact h.fl,fun k hk=>?_,by rw[e3,jzcv,qe];exact h.gl,fun k hk=>?_,fun k l hk hl e=>?_,fun k l hk hl e=>?_,fun k l hk hl=>?_,fun l hl=>?_,fun k hk=>?_,?_,?_⟩;{rw[qf k hk,qe];split;{rw[jzlo];exact qg};rw[jzcv];exact h.cl k hk};{rw[qe]at hk;rw[e2,iU _ _ _ _ hj];split;{exact h.di.lt i hi};exact h.fv k hk};{rw[qe]at hk hl;rw[e2,iU _ _ _ _ hj,iU _ _ _ _ hj]at e;by_cases h1:k=j;{by_cases h2:l=j;{rw[h1,h2]};rw[qE h1,qF h2]at e;exact absurd e.symm (h.fb l i hl hi)};by_cases h2:l=j;{rw[qF h1,qE h2]at e;exact absurd e (h.fb k i hk hi)};rw[qF h1,qF h2]at e;exact h.fi k l hk hl e};{rw[qe]at hk;rw[e1,e2,iU _ _ _ _ hj,iU _ _ _ _ qn]at e;by_cases h1:k=j;{by_cases h2:l=i;{rw[qE h1,qE h2]at e;exact h.fb j i hj hi e.symm};rw[qE h1,qF h2]at e;exact h2 (h.di.inj hl hi e.symm)};by_cases h2:l=i;{rw[qF h1,qE h2]at e;exact h1 (h.fi k j hk hj e)};rw[qF h1,qF h2]at e;exact h.fb k l hk hl e};{rw[qe]at hl;rw[qf k hk,e2,iU _ _ _ _ hj];by_cases qa:k=i;{subst qa;rw[qE rfl,qh l hl,gC];split;{rw[qk]};rfl};rw[qF qa,jzcw _ _ _ (by rw[h.cl k hk];exact hl),qh l hl,h.co k j hk hj,h.co k l hk hl,eB _ _ _ qa];split;{rw[qm k qO,qF qa,qk]};rfl};{rw[qe]at hl;rw[e3,e2,iU _ _ _ _ hj,jzcw _ _ _ (by rw[h.gl];exact hl),qh l hl,h.go j hj,h.go l hl,eB _ _ _ qO];split;{rw[qm m qO,qF qO,qk]};rfl};{rw[qf k hk];by_cases qa:k=i;{subst qa;rw[qE rfl,qi,gC]};rw[qF qa,jzcx,qi,h.co k j hk hj,h.re k hk,eB _ _ _ qa]};{rw[e3,jzcx,qi,h.go j hj,h.gr,eB _ _ _ qO]};have hb:atN (pivT T i j).bas=gB (atN T.bas) i (atN T.fre j):=(by funext l;rw[e1,iU _ _ _ _ qn];rfl);rw[hb];exact h.di.pivot hi (h.fv j hj) hp
def entN(T:Tb):Nat->Option Nat
 |0=>none
 |j+1=>if at_ T.goal.co j<0 then(match entN T j with
  |none=>some j
  |some b=>if atN T.fre j<atN T.fre b then some j else some b)else entN T j
def entT(T:Tb):Option Nat:=entN T T.goal.co.length
theorem entN_some(T:Tb):∀(n:Nat) {b:Nat},entN T n=some b->b<n/\at_ T.goal.co b<0/\∀j,j<n->at_ T.goal.co j<0->atN T.fre b<=atN T.fre j
 |0,_,h=>by cases h
 |n+1,b,h=>by
  have h:(if at_ T.goal.co n<0 then(match entN T n with
   |none=>some n
   |some b=>if atN T.fre n<atN T.fre b then some n else some b)else entN T n)=some b:=h
  by_cases h1:at_ T.goal.co n<0
  ·rw[qE h1]at h
   cases h2:entN T n with
   |none=>
    rw[h2]at h;injection h with h
    subst h;refine⟨qO,h1,fun j hj hn=>?_⟩;by_cases e:j=n
    ·rw[e];exact yX _
    ·exfalso
     have qa:∀k,entN T k=none->∀j,j<k->¬at_ T.goal.co j<0:=fun k=>by
      induction k with
      |zero=>intro _ j hj;omega
      |succ k ih=>
       intro hk j hj;have hk:(if at_ T.goal.co k<0 then(match entN T k with
        |none=>some k
        |some b=>if atN T.fre k<atN T.fre b then some k else some b)else entN T k)=none:=hk
       by_cases h3:at_ T.goal.co k<0
       ·rw[qE h3]at hk
        cases h4:entN T k with
        |none=>rw[h4]at hk;cases hk
        |some c=>rw[h4]at hk;simp only[]at hk;split at hk <;> cases hk
       ·rw[qF h3]at hk
        by_cases e:j=k
        ·rw[e];exact h3
        ·exact ih hk j qO
     exact qa n h2 j qO hn
   |some c=>
    rw[h2]at h;obtain⟨g1,g2,g3⟩:=entN_some T n h2;simp only[]at h;by_cases h3:atN T.fre n<atN T.fre c
    ·rw[qE h3]at h
     injection h with h
     subst h;refine⟨qO,h1,fun j hj hn=>?_⟩;by_cases e:j=n
     ·rw[e];exact yX _
     ·have:=g3 j qO hn;omega
    ·rw[qF h3]at h
     injection h with h
     subst h;refine⟨qO,g2,fun j hj hn=>?_⟩;by_cases e:j=n
     ·rw[e];omega
     ·exact g3 j qO hn
  ·rw[qF h1]at h
   obtain⟨g1,g2,g3⟩:=entN_some T n h;refine⟨qO,g2,fun j hj hn=>?_⟩;by_cases e:j=n
   ·rw[e]at hn;exact absurd hn h1
   ·exact g3 j qO hn
theorem jzcy(T:Tb):∀(n:Nat),entN T n=none->∀j,j<n->0<=at_ T.goal.co j
 |0,_,j,hj=>by omega
 |n+1,h,j,hj=>by
  have h:(if at_ T.goal.co n<0 then(match entN T n with
   |none=>some n
   |some b=>if atN T.fre n<atN T.fre b then some n else some b)else entN T n)=none:=h
  by_cases h1:at_ T.goal.co n<0
  ·rw[qE h1]at h
   cases h4:entN T n with
   |none=>rw[h4]at h;cases h
   |some c=>rw[h4]at h;simp only[]at h;split at h <;> cases h
  ·rw[qF h1]at h
   by_cases e:j=n
   ·rw[e];exact kQ4.1 h1
   ·exact jzcy T n h j qO
def quo(T:Tb)(j k:Nat):Rat:=(T.row k).re/at_ (T.row k).co j
def levN(T:Tb)(j:Nat):Nat->Option Nat
 |0=>none
 |i+1=>if 0<at_ (T.row i).co j then(match levN T j i with
  |none=>some i
  |some b=>if quo T j i<quo T j b\/quo T j i=quo T j b/\atN T.bas i<atN T.bas b then some i else some b)else levN T j i
def levT(T:Tb)(j:Nat):Option Nat:=levN T j T.rows.length
theorem wI(T:Tb)(j:Nat):∀(n:Nat),levN T j n=none->∀k,k<n->at_ (T.row k).co j<=0
 |0,_,k,hk=>by omega
 |n+1,h,k,hk=>by
  have h:(if 0<at_ (T.row n).co j then(match levN T j n with
   |none=>some n
   |some b=>if quo T j n<quo T j b\/quo T j n=quo T j b/\atN T.bas n<atN T.bas b then some n else some b)else levN T j n)=none:=h
  by_cases h1:0<at_ (T.row n).co j
  ·rw[qE h1]at h
   cases h4:levN T j n with
   |none=>rw[h4]at h;cases h
   |some c=>rw[h4]at h;simp only[]at h;split at h <;> cases h
  ·rw[qF h1]at h
   by_cases e:k=n
   ·rw[e];exact kQ4.1 h1
   ·exact wI T j n h k qO
theorem levN_some(T:Tb)(j:Nat):∀(n:Nat) {b:Nat},levN T j n=some b->b<n/\0<at_ (T.row b).co j/\∀k,k<n->0<at_ (T.row k).co j->quo T j b<=quo T j k/\(quo T j b=quo T j k->atN T.bas b<=atN T.bas k)
 |0,_,h=>by cases h
 |n+1,b,h=>by
  have h:(if 0<at_ (T.row n).co j then(match levN T j n with
   |none=>some n
   |some b=>if quo T j n<quo T j b\/quo T j n=quo T j b/\atN T.bas n<atN T.bas b then some n else some b)else levN T j n)=some b:=h
  by_cases h1:0<at_ (T.row n).co j
  ·rw[qE h1]at h
   cases h2:levN T j n with
   |none=>
    rw[h2]at h;injection h with h
    subst h;refine⟨qO,h1,fun k hk hp=>?_⟩;by_cases e:k=n
    ·rw[e];exact⟨vC,fun _=>yX _⟩
    ·have:=wI T j n h2 k qO
     exact absurd hp (kQ4.2 this)
   |some c=>
    rw[h2]at h;obtain⟨g1,g2,g3⟩:=levN_some T j n h2;simp only[]at h;by_cases h3:quo T j n<quo T j c\/quo T j n=quo T j c/\atN T.bas n<atN T.bas c
    ·rw[qE h3]at h
     injection h with h
     subst h;refine⟨qO,h1,fun k hk hp=>?_⟩;by_cases e:k=n
     ·rw[e];exact⟨vC,fun _=>yX _⟩
     ·obtain⟨k1,k2⟩:=g3 k qO hp
      rcases h3 with h3|⟨h3,h4⟩
      ·exact⟨qG,fun e2=>qG⟩
      ·exact⟨qG,fun e2=>by
       have:=k2 qG;omega⟩
    ·rw[qF h3]at h
     injection h with h
     subst h;refine⟨qO,g2,fun k hk hp=>?_⟩;by_cases e:k=n
     ·subst e
      refine⟨kQ4.1 fun h4=>h3 (.inl h4),fun e2=>Nat.le_of_not_lt fun h4=>h3 (.inr ⟨e2.symm,h4⟩)⟩
     ·exact g3 k qO hp
  ·rw[qF h1]at h
   obtain⟨g1,g2,g3⟩:=levN_some T j n h;refine⟨qO,g2,fun k hk hp=>?_⟩;by_cases e:k=n
   ·rw[e]at hp;exact absurd hp h1
   ·exact g3 k qO hp
theorem Rep.all{T:Tb}{m nv:Nat}{M:Nat->Nat->Rat}(h:Rep T m nv M){v:Nat}(hv:v<nv):(∃l,l<m/\atN T.bas l=v)\/∃j,j<T.fre.length/\atN T.fre j=v:=by
 refine Classical.byContradiction fun hn=>?_;have hf:=h.fl;obtain⟨a,b,qf,hb,e⟩:=uW nv (fun k=>if k<m then atN T.bas k else if k<nv then atN T.fre (k-m)else v) (fun k hk=>by split;{rename_i h1;exact h.di.lt k h1};split;{exact h.fv (k-m) qO};exact hv);by_cases qa:b<m;{rw[qE (show a<m by omega),qE qa]at e;have:=h.di.inj (show a<m by omega) qa e;omega};rw[qF qa]at e;by_cases qe:b<nv;{rw[qE qe]at e;by_cases ha:a<m;{rw[qE ha]at e;exact h.fb (b-m) a qO ha e.symm};rw[qF ha,qE qO]at e;have:=h.fi (a-m) (b-m) qO qO e;omega};rw[qF qe]at e;by_cases ha:a<m;{rw[qE ha]at e;exact hn (.inl ⟨a,ha,e⟩)};rw[qF ha,qE qO]at e;exact hn (.inr ⟨a-m,qO,e⟩)
theorem Rep.bland{T:Tb}{m nv:Nat}{M:Nat->Nat->Rat}(h:Rep T m nv M){i j:Nat}(hj:entT T=some j)(hi:levT T j=some i):j<T.fre.length/\i<m/\Bl m nv M (atN T.bas) i (atN T.fre j):=by
 obtain⟨e1,e2,e3⟩:=entN_some T _ hj;obtain⟨l1,l2,l3⟩:=levN_some T j _ hi;rw[h.gl]at e1;rw[h.rl]at l1;refine⟨e1,l1,l1,h.fv j e1,by rw[<-h.go j e1];exact e2,fun v hv=>?_,by rw[<-h.co i j l1 e1];exact l2,fun k hk hp=>?_,fun k hk hp he=>?_⟩;{have qa:v<nv:=Nat.lt_trans hv (h.fv j e1);(rcases h.all qa with⟨l,hl,rfl⟩|⟨k,hk,rfl⟩);{rw[h.di.unit l hl m (yX _),qF qO];exact vC};rw[<-h.go k hk];refine kQ4.1 fun hn=>?_;have:=e3 k (by rw[h.gl];exact hk) hn;omega};{rw[<-h.co k j hk e1]at hp;have:=(l3 k (by rw[h.rl];exact hk) hp).1;unfold quo at this;rw[h.re i l1,h.re k hk,h.co i j l1 e1,h.co k j hk e1]at this;exact this};rw[<-h.co k j hk e1]at hp;refine(l3 k (by rw[h.rl];exact hk) hp).2 ?_;unfold quo;rw[h.re i l1,h.re k hk,h.co i j l1 e1,h.co k j hk e1];exact he
def stepT(T:Tb):Option Tb:=match entT T with
 |none=>none
 |some j=>match levT T j with
  |none=>none
  |some i=>some (pivT T i j)
theorem stepT_some{T T':Tb}(h:stepT T=some T'):∃i j,entT T=some j/\levT T j=some i/\T'=pivT T i j:=by
 (unfold stepT at h;cases h1:entT T with|none=>rw[h1]at h;cases h|some j=>(rw[h1]at h;simp only[]at h;cases h2:levT T j with|none=>rw[h2]at h;cases h|some i=>(rw[h2]at h;injection h with h);exact⟨i,j,rfl,h2,h.symm⟩))
def iterT:Nat->Tb->Tb
 |0,T=>T
 |n+1,T=>(stepT (iterT n T)).getD (iterT n T)
theorem jzls{T:Tb}{m nv:Nat}{M:Nat->Nat->Rat}(h:Rep T m nv M)(hf:∀k,k<m->0<=M k nv):∃N,stepT (iterT N T)=none/\∀n,n<N->stepT (iterT n T)≠none:=by
 have qg:∃N,stepT (iterT N T)=none:=(by refine Classical.byContradiction fun hn=>?_;have hs:∀n,∃i j,entT (iterT n T)=some j/\levT (iterT n T) j=some i/\iterT (n+1) T=pivT (iterT n T) i j:=fun n=>(by (cases h1:stepT (iterT n T)with|none=>exact absurd ⟨n,h1⟩ hn|some T'=>obtain⟨i,j,h2,h3,h4⟩:=stepT_some h1;refine⟨i,j,h2,h3,?_⟩;show(stepT (iterT n T)).getD _=_;rw[h1, <-h4];rfl));(let I:Nat->Nat:=fun n=>(hs n).choose);(let J:Nat->Nat:=fun n=>(hs n).choose_spec.choose);have qe:∀n,entT (iterT n T)=some (J n)/\levT (iterT n T) (J n)=some (I n)/\iterT (n+1) T=pivT (iterT n T) (I n) (J n):=fun n=>(hs n).choose_spec.choose_spec;(let MM:Nat->Nat->Nat->Rat:=fun n=>Nat.rec M (fun k Mk=>Sx.piv Mk (I k) (atN (iterT k T).fre (J k))) n);have qa:∀n,Rep (iterT n T) m nv (MM n):=fun n=>(by (induction n with|zero=>exact h|succ n ih=>obtain⟨h1,h2,h3⟩:=qe n;obtain⟨g1,g2,g3⟩:=ih.bland h1 h2;rw[h3];exact ih.pivot g2 g1 (fun e=>by have:=g3.pos;rw[<-ih.co _ _ g2 g1,e]at this;exact absurd this qD)));have qf:Run m nv (2^nv) MM (fun n=>atN (iterT n T).bas) I (fun n=>atN (iterT n T).fre (J n)):=(by refine⟨h.di,hf,fun n _=>((qa n).bland (qe n).1 (qe n).2.1).2.2,fun n _=>rfl,fun n _=>?_⟩;obtain⟨h1,h2,h3⟩:=qe n;obtain⟨g1,g2,g3⟩:=(qa n).bland h1 h2;funext l;show atN (iterT (n+1) T).bas l=_;rw[h3];show atN ((iterT n T).bas.set (I n) _) l=_;rw[iU _ _ _ _ (by rw[(qa n).bl];exact g2)];rfl);have:=qf.short;omega);obtain⟨N,hN⟩:=qg;(induction N using Nat.strongRecOn with|ind N ih=>by_cases h1:∃n,n<N/\stepT (iterT n T)=none;{obtain⟨n,hn,h2⟩:=h1;exact ih n hn h2};exact⟨N,hN,fun n hn h2=>h1 ⟨n,hn,h2⟩⟩)
end Sx
namespace Sx
theorem Rep.slack{T:Tb}{m nv:Nat}{M:Nat->Nat->Rat}(h:Rep T m nv M)(f:Nat->Rat):sm m f=(sm m fun l=>if atN T.bas l<m then f (atN T.bas l)else 0)+sm T.fre.length fun j=>if atN T.fre j<m then f (atN T.fre j)else 0:=by
 (have e1:sm m f=sm m fun i=>(sm m fun l=>if atN T.bas l=i then f i else 0)+sm T.fre.length fun j=>if atN T.fre j=i then f i else 0:=sm_congr m fun i hi=>(by (have hf:=h.fl;rcases h.all (show i<nv by omega)with⟨l,hl,e⟩|⟨j,hj,e⟩);{rw[sm_one m hl (fun k hk hkl=>by rw[qF (fun e2=>hkl (h.di.inj hk hl (by rw[e2,e])))]),sm_zero T.fre.length (fun j hj=>by rw[qF (fun e2=>h.fb j l hj hl (by rw[e2,e]))]),qE e];grind};rw[sm_zero m (fun l hl=>by rw[qF (fun e2=>h.fb j l hj hl (by rw[e2,e]))]),sm_one T.fre.length hj (fun k hk hkj=>by rw[qF (fun e2=>hkj (h.fi k j hk hj (by rw[e2,e])))]),qE e];grind));(have e2:∀v:Nat,(sm m fun i=>if v=i then f i else 0)=if v<m then f v else 0:=fun v=>(by by_cases hv:v<m;{rw[qE hv,sm_one m hv (fun i _ hi=>by rw[qF (fun e=>hi e.symm)]),qE rfl]};rw[qF hv,sm_zero m (fun i hi=>by rw[qF qO])]));rw[e1,sm_add];congr 1;{rw[nH];exact sm_congr m fun l _=>e2 _};(have:=nH m T.fre.length fun i j=>if atN T.fre j=i then f i else 0);rw[this];exact sm_congr _ fun j _=>e2 _
def slk(T:Tb)(vals:LQ):Nat->LN
 |0=>[]
 |n+1=>if atN T.fre n<vals.length/\at_ vals (atN T.fre n)≠0 then slk T vals n++[n]else slk T vals n
def addC(T:Tb)(vals:LQ)(x:LQ)(base:Rat)(js:LN):Rat:=js.foldl (fun s j=>s+at_ x j*at_ vals (atN T.fre j)) base
theorem addC_snoc(T:Tb)(vals x:LQ)(base:Rat)(js:LN)(j:Nat):addC T vals x base (js++[j])=addC T vals x base js+at_ x j*at_ vals (atN T.fre j):=by unfold addC;rw[kZt];rfl
theorem wJ(T:Tb)(vals x:LQ)(base:Rat):∀n,addC T vals x base (slk T vals n)=base+sm n fun j=>if atN T.fre j<vals.length then at_ x j*at_ vals (atN T.fre j)else 0
 |0=>by show base=base+0;grind
 |n+1=>by
  have ih:=wJ T vals x base n;show addC T vals x base (if atN T.fre n<vals.length/\at_ vals (atN T.fre n)≠0 then slk T vals n++[n]else slk T vals n)=base+(sm n _+if atN T.fre n<vals.length then at_ x n*at_ vals (atN T.fre n)else 0);by_cases h1:atN T.fre n<vals.length
  ·rw[qE h1]
   by_cases h2:at_ vals (atN T.fre n)=0
   ·rw[qF (fun h=>h.2 h2),ih,h2];grind
   ·rw[qE ⟨h1,h2⟩,addC_snoc,ih];grind
  ·rw[qF h1,qF (fun h=>h1 h.1),ih];grind
def addR(T:Tb)(vals:LQ)(r:Rw)(base:Rat):Rw:=⟨r.co++[addC T vals r.co base (slk T vals T.fre.length)],r.re⟩
def addT(T:Tb)(cost:Rat)(vals:LQ):Tb:=
 ⟨(List.range T.rows.length).map (fun i=>addR T vals (T.row i) (if atN T.bas i<vals.length then at_ vals (atN T.bas i)else 0)),T.bas,T.fre++[T.rows.length+T.cols],
   ⟨T.goal.co++[addC T vals T.goal.co 0 (slk T vals T.fre.length)-cost],T.goal.re⟩,T.cols+1⟩
def newT(bounds:LQ):Tb:=⟨bounds.map fun b=>⟨[],b⟩,List.range bounds.length,[],⟨[],0⟩,0⟩
def cc(nv:Nat)(Cs:Nat->Nat->Rat)(b:Nat->Rat):Nat->Nat->Rat:=fun v=>if v<nv then Cs v else b
def kk(nv:Nat)(ks:Nat->Rat):Nat->Rat:=fun v=>if v<nv then ks v else 0
structure LPI(T:Tb)(m nv:Nat)(M:Nat->Nat->Rat)(Cs:Nat->Nat->Rat)(ks:Nat->Rat)(b:Nat->Rat):Prop where
 rep:Rep T m nv M
 col:Col m nv M (atN T.bas) (cc nv Cs b) (kk nv ks)
 row:rT m nv M (cc nv Cs b) (kk nv ks)
 feas:∀k,k<m->0<=M k nv
 det:dB m (cc nv Cs b) (atN T.bas)≠0
 cols:T.cols=T.fre.length
 unit:∀j,j<m->∀i,i<m->Cs j i=if i=j then 1 else 0
 free:∀j,j<m->ks j=0
theorem LPI.step{T:Tb}{m nv:Nat}{M:Nat->Nat->Rat}{Cs:Nat->Nat->Rat}{ks b:Nat->Rat}(h:LPI T m nv M Cs ks b){T':Tb}(hs:stepT T=some T'):∃M',LPI T' m nv M' Cs ks b:=by
 obtain⟨i,j,h1,h2,rfl⟩:=stepT_some hs;obtain⟨g1,g2,g3⟩:=h.rep.bland h1 h2;have hp:M i (atN T.fre j)≠0:=fun e=>(by have:=g3.pos;rw[e]at this;exact absurd this qD);have hb:atN (pivT T i j).bas=gB (atN T.bas) i (atN T.fre j):=(by funext l;show atN (T.bas.set i _) l=_;rw[iU _ _ _ _ (by rw[h.rep.bl];exact g2)];rfl);refine⟨Sx.piv M i (atN T.fre j),h.rep.pivot g2 g1 (by rw[h.rep.co _ _ g2 g1];exact hp),by rw[hb];exact h.col.pivot g2 g3.he hp,h.row.pivot _ g2,g3.feas h.feas,?_,?_,h.unit,h.free⟩;{rw[hb,h.col.det_piv g2 g3.he];exact fun e=>(by (rcases Rat.mul_eq_zero.1 e with e|e);{exact hp e};exact h.det e)};show T.cols=(T.fre.set j _).length;rw[yV];exact h.cols
theorem LPI.iter{T:Tb}{m nv:Nat}{M:Nat->Nat->Rat}{Cs:Nat->Nat->Rat}{ks b:Nat->Rat}(h:LPI T m nv M Cs ks b):∀n,∃M',LPI (iterT n T) m nv M' Cs ks b
 |0=>⟨M,h⟩
 |n+1=>by
  obtain⟨M',h1⟩:=h.iter n;show∃M',LPI ((stepT (iterT n T)).getD (iterT n T)) m nv M' Cs ks b;cases h2:stepT (iterT n T)with
  |none=>exact⟨M',h1⟩
  |some T'=>exact h1.step h2
theorem jzcz(l:LQ)(x:Rat)(k:Nat):at_ (l++[x]) k=if k=l.length then x else at_ l k:=by
 unfold at_;by_cases h:k<l.length;{rw[yR h,qF qO]};by_cases e:k=l.length;{rw[yS qO,e,qE rfl];simp};rw[yI (by simp;omega),yI qO,qF e]
theorem jzlt(l:LN)(x:Nat)(k:Nat):atN (l++[x]) k=if k=l.length then x else atN l k:=by
 unfold atN;by_cases h:k<l.length;{rw[yR h,qF qO]};by_cases e:k=l.length;{rw[yS qO,e,qE rfl];simp};rw[yI (by simp;omega),yI qO,qF e]
def eC(m nv:Nat)(M:Nat->Nat->Rat)(vals:LQ)(cost:Rat):Nat->Nat->Rat:=fun k v=>
 if v<nv then M k v else if v=nv then(sm m fun i=>M k i*at_ vals i)-(if k=m then cost else 0)else M k nv
theorem LPI.add{T:Tb}{m nv:Nat}{M:Nat->Nat->Rat}{Cs:Nat->Nat->Rat}{ks b:Nat->Rat}(h:LPI T m nv M Cs ks b)(cost:Rat)(vals:LQ)(hv:vals.length=m){Cs':Nat->Nat->Rat}{ks':Nat->Rat}
  (hC:∀v,v<nv->Cs' v=Cs v) (hCn:∀i,i<m->Cs' nv i=at_ vals i) (hk:∀v,v<nv->ks' v=ks v) (hkn:ks' nv=cost):
  LPI (addT T cost vals) m (nv+1) (eC m nv M vals cost) Cs' ks' b:=by
 have hr:=h.rep;have qC:T.rows.length+T.cols=nv:=(by rw[hr.rl,h.cols];have:=hr.fl;omega);have hm:m<=nv:=(by have:=hr.fl;omega);have qe:(addT T cost vals).fre.length=T.fre.length+1:=(by show(T.fre++[_]).length=_;simp);have qh:∀k,k<m->(addT T cost vals).row k=addR T vals (T.row k) (if atN T.bas k<vals.length then at_ vals (atN T.bas k)else 0):=fun k hk=>(by show((List.range T.rows.length).map _)[k]?.getD _=_;rw[yW,xJ (by rw[hr.rl];exact hk)];rfl);(have qa:∀j,atN (addT T cost vals).fre j=if j=T.fre.length then nv else atN T.fre j:=fun j=>(by show atN (T.fre++[_]) j=_;rw[jzlt,qC]));have qi:∀k v,v<nv->eC m nv M vals cost k v=M k v:=fun k v hv=>qE hv;have qk:∀k,eC m nv M vals cost k nv=(sm m fun i=>M k i*at_ vals i)-(if k=m then cost else 0):=fun k=>(by unfold eC;rw[qF qO,qE rfl]);have qm:∀k,eC m nv M vals cost k (nv+1)=M k nv:=fun k=>(by unfold eC;rw[qF qO,qF qO]);have qn:∀v,v<nv->cc (nv+1) Cs' b v=cc nv Cs b v:=fun v hv=>(by unfold cc;rw[qE qO,qE hv,hC v hv]);have qz:cc (nv+1) Cs' b nv=Cs' nv:=(by unfold cc;rw[qE qO]);have qt:cc (nv+1) Cs' b (nv+1)=cc nv Cs b nv:=(by unfold cc;rw[qF qO,qF qO]);have qw:∀v,v<nv->kk (nv+1) ks' v=kk nv ks v:=fun v hv=>(by unfold kk;rw[qE qO,qE hv,hk v hv]);have qp:kk (nv+1) ks' nv=cost:=(by unfold kk;rw[qE qO,hkn]);have qA:kk (nv+1) ks' (nv+1)=kk nv ks nv:=(by unfold kk;rw[qF qO,qF qO]);have qj:∀l,l<m->atN T.bas l<nv:=hr.di.lt;have qx:∀k,k<m->addC T vals (T.row k).co (if atN T.bas k<vals.length then at_ vals (atN T.bas k)else 0) (slk T vals T.fre.length)=sm m fun i=>M k i*at_ vals i:=fun k hk=>(by rw[wJ,hr.slack fun i=>M k i*at_ vals i,hv];congr 1;{(have hu:M k (atN T.bas k)=1:=by rw[hr.di.unit k hk k qO,qE rfl]);rw[sm_one m hk (fun l hl hlk=>by have hu:M k (atN T.bas l)=0:=(by rw[hr.di.unit l hl k qO,qF (fun e=>hlk e.symm)]);rw[hu];split <;> grind),hu];split <;> grind};exact sm_congr _ fun j hj=>by rw[hr.co k j hk hj])
 have qo:addC T vals T.goal.co 0 (slk T vals T.fre.length)=sm m fun i=>M m i*at_ vals i:=by
  rw[wJ,hr.slack fun i=>M m i*at_ vals i,hv];congr 1
  ·rw[sm_zero m (fun l hl=>by
   have hu:M m (atN T.bas l)=0:=(by rw[hr.di.unit l hl m qO,qF qO]);rw[hu];split <;> grind)]
  exact sm_congr _ fun j hj=>by rw[hr.go j hj]
 refine⟨⟨?_,hr.bl,by rw[qe];have:=hr.fl;omega,fun k hk=>?_,?_,fun j hj=>?_,fun j k hj hk e=>?_,fun j l hj hl e=>?_,fun k j hk hj=>?_,fun j hj=>?_,fun k hk=>?_,?_,⟨fun l hl k hk=>?_,fun l hl=>?_⟩⟩,fun v hv2=>?_,fun v hv2=>?_,fun k hk=>?_,?_,?_,fun j hj i hi=>?_,fun j hj=>?_⟩;{show((List.range T.rows.length).map _).length=m;simp[hr.rl]};{rw[qh k hk,qe];show((T.row k).co++[_]).length=_;rw[yQ,hr.cl k hk];rfl};{rw[qe];show(T.goal.co++[_]).length=_;rw[yQ,hr.gl];rfl};{rw[qe]at hj;rw[qa];split;{omega};have:=hr.fv j qO;omega};{rw[qe]at hj hk;rw[qa,qa]at e;by_cases h1:j=T.fre.length;{by_cases h2:k=T.fre.length;{omega};rw[qE h1,qF h2]at e;have:=hr.fv k qO;omega};by_cases h2:k=T.fre.length;{rw[qF h1,qE h2]at e;have:=hr.fv j qO;omega};rw[qF h1,qF h2]at e;exact hr.fi j k qO qO e};{rw[qe]at hj;rw[qa]at e;have e:_=atN T.bas l:=e;by_cases h1:j=T.fre.length;{rw[qE h1]at e;have:=qj l hl;omega};rw[qF h1]at e;exact hr.fb j l qO hl e};{rw[qe]at hj;rw[qh k hk,qa];show at_ ((T.row k).co++[_]) j=_;rw[jzcz,hr.cl k hk];by_cases h1:j=T.fre.length;{rw[qE h1,qE h1,qk,qx k hk,qF (show¬k=m by omega)];grind};rw[qF h1,qF h1,qi _ _ (hr.fv j qO),hr.co k j hk qO]};{rw[qe]at hj;rw[qa];show at_ (T.goal.co++[_]) j=_;rw[jzcz,hr.gl];by_cases h1:j=T.fre.length;{rw[qE h1,qE h1,qk,qE rfl,qo]};rw[qF h1,qF h1,qi _ _ (hr.fv j qO),hr.go j qO]};{rw[qh k hk,qm];exact hr.re k hk};{rw[qm];exact hr.gr};{rw[show atN (addT T cost vals).bas l=atN T.bas l from rfl,qi _ _ (qj l hl)];exact hr.di.unit l hl k hk};{have:=qj l hl;show atN T.bas l<nv+1;omega};{have qy:∀l,l<m->∀i,cc (nv+1) Cs' b (atN (addT T cost vals).bas l) i=cc nv Cs b (atN T.bas l) i:=fun l hl i=>(by show cc (nv+1) Cs' b (atN T.bas l) i=_;rw[qn _ (qj l hl)]);have qB:∀l,l<m->kk (nv+1) ks' (atN (addT T cost vals).bas l)=kk nv ks (atN T.bas l):=fun l hl=>qw _ (qj l hl);have old:∀v0 v,v<=nv->(∀k,eC m nv M vals cost k v0=M k v)->cc (nv+1) Cs' b v0=cc nv Cs b v->kk (nv+1) ks' v0=kk nv ks v->(∀i,i<m->cc (nv+1) Cs' b v0 i=sm m fun l=>eC m nv M vals cost l v0*cc (nv+1) Cs' b (atN (addT T cost vals).bas l) i)/\eC m nv M vals cost m v0=(sm m fun l=>eC m nv M vals cost l v0*kk (nv+1) ks' (atN (addT T cost vals).bas l))-kk (nv+1) ks' v0:=fun v0 v hv0 h1 h2 h3=>(by obtain⟨g1,g2⟩:=h.col v hv0;refine⟨fun i hi=>?_,?_⟩;{rw[h2,g1 i hi];exact sm_congr m fun l hl=>by rw[h1,qy l hl]};rw[h1,h3,g2];congr 1;exact sm_congr m fun l hl=>by rw[h1,qB l hl]);by_cases h1:v<nv;{exact old v v qO (fun k=>qi k v h1) (qn v h1) (qw v h1)};by_cases h2:v=nv;{subst h2;have qg:∀g:Nat->Rat,(sm m fun l=>eC m v M vals cost l v*g l)=sm m fun j=>at_ vals j*sm m fun l=>M l j*g l:=fun g=>(by have e1:(sm m fun l=>eC m v M vals cost l v*g l)=sm m fun l=>sm m fun j=>at_ vals j*(M l j*g l):=sm_congr m fun l hl=>(by have h0:eC m v M vals cost l v=sm m fun i=>M l i*at_ vals i:=(by rw[qk,qF (show¬l=m by omega)];grind);rw[h0,Rat.mul_comm, <-eT];exact sm_congr m fun j _=>qG);rw[e1,nH];exact sm_congr m fun j _=>by rw[eT]);refine⟨fun i hi=>?_,?_⟩;{rw[qz,hCn i hi];(have e1:(sm m fun l=>eC m v M vals cost l v*cc (v+1) Cs' b (atN (addT T cost vals).bas l) i)=sm m fun l=>eC m v M vals cost l v*cc v Cs b (atN T.bas l) i:=sm_congr m fun l hl=>(by rw[qy l hl]);rw[e1,qg];have e2:(sm m fun j=>at_ vals j*sm m fun l=>M l j*cc v Cs b (atN T.bas l) i)=sm m fun j=>if j=i then at_ vals i else 0:=sm_congr m fun j hj=>(by (rw[<-(h.col j qO).1 i hi];have:cc v Cs b j i=if i=j then 1 else 0:=by unfold cc;rw[qE qO,h.unit j hj i hi]);rw[this];by_cases e:j=i;{subst e;rw[qE rfl,qE rfl];grind};rw[qF e,qF (fun e2=>e e2.symm)];grind));rw[e2,sm_one m hi (fun j _ hj=>by rw[qF hj]),qE rfl]};rw[qk,qE rfl,qp];congr 1;have e1:(sm m fun l=>eC m v M vals cost l v*kk (v+1) ks' (atN (addT T cost vals).bas l))=sm m fun l=>eC m v M vals cost l v*kk v ks (atN T.bas l):=sm_congr m fun l hl=>(by rw[qB l hl]);rw[e1,qg];refine sm_congr m fun j hj=>?_;have h3:=(h.col j qO).2;have h4:kk v ks j=0:=(by unfold kk;rw[qE qO,h.free j hj]);rw[h4]at h3;rw[h3];grind};obtain rfl:v=nv+1:=qO;exact old (nv+1) nv (yX _) qm qt qA};{(have qf:∀k,(sm m fun i=>eC m nv M vals cost k i*cc (nv+1) Cs' b v i)=sm m fun i=>M k i*cc (nv+1) Cs' b v i:=fun k=>sm_congr m fun i hi=>by rw[qi k i qO]);rw[qf m];by_cases h1:v<nv;{obtain⟨g1,g2⟩:=h.row v qO;rw[qi m v h1,qw v h1];refine⟨fun k hk=>by rw[qf k,qi k v h1,qn v h1];exact g1 k hk,by rw[qn v h1];exact g2⟩};by_cases h2:v=nv;{subst h2;have e1:∀k,(sm m fun i=>M k i*cc (v+1) Cs' b v i)=sm m fun i=>M k i*at_ vals i:=fun k=>sm_congr m fun i hi=>(by rw[qz,hCn i hi]);refine⟨fun k hk=>?_,?_⟩;{rw[qf k,qk,qF qO,e1];grind};rw[qk,qE rfl,e1,qp]};obtain rfl:v=nv+1:=qO;obtain⟨g1,g2⟩:=h.row nv (yX _);rw[qm m,qA,qt];exact⟨fun k hk=>by have h3:=qf k;rw[qt]at h3;rw[qm k,h3];exact g1 k hk,g2⟩};{rw[qm];exact h.feas k hk};{have:dB m (cc (nv+1) Cs' b) (atN (addT T cost vals).bas)=dB m (cc nv Cs b) (atN T.bas):=lH m fun i _ l hl=>(by show cc (nv+1) Cs' b (atN T.bas l) i=_;rw[qn _ (qj l hl)]);rw[this];exact h.det};{show T.cols+1=_;rw[qe,h.cols]};{rw[hC j qO];exact h.unit j hj i hi};rw[hk j qO];exact h.free j hj
end Sx
namespace Sx
theorem jzlu(l:LQ){k:Nat}(hk:k<l.length):at_ l k=l[k]:=by unfold at_;rw[yG hk];rfl
theorem jzlv(n k:Nat)(hk:k<n):atN (List.range n) k=k:=by unfold atN;rw[xJ hk];rfl
def iV(m:Nat)(bounds:LQ):Nat->Nat->Rat:=fun k v=>if k<m then(if v<m then(if k=v then 1 else 0)else at_ bounds k)else 0
theorem LPI.start(bounds:LQ){m:Nat}(hm:bounds.length=m)(hb:∀k,k<m->0<=at_ bounds k){Cs:Nat->Nat->Rat}{ks:Nat->Rat}(hu:∀j,j<m->∀i,i<m->Cs j i=if i=j then 1 else 0)(hk:∀j,j<m->ks j=0):
  LPI (newT bounds) m m (iV m bounds) Cs ks (fun i=>at_ bounds i):=by
 have qf:∀k,k<m->(newT bounds).row k=⟨[],at_ bounds k⟩:=fun k hk=>(by show(bounds.map fun b=>(⟨[],b⟩:Rw))[k]?.getD _=_;rw[yW,yG qO,jzlu _ qO];rfl);(have qa:∀l,l<m->atN (newT bounds).bas l=l:=fun l hl=>jzlv _ _ qO;have hM:∀k v,k<m->v<m->iV m bounds k v=if k=v then 1 else 0:=fun k v h1 h2=>by unfold iV;rw[qE h1,qE h2]);have qg:∀k,k<m->iV m bounds k m=at_ bounds k:=fun k h1=>(by unfold iV;rw[qE h1,qF qO]);have qe:∀v,iV m bounds m v=0:=fun v=>(by unfold iV;rw[qF qO]);have hc:∀v,v<m->cc m Cs (fun i=>at_ bounds i) v=Cs v:=fun v hv=>(by unfold cc;rw[qE hv]);have qi:cc m Cs (fun i=>at_ bounds i) m=fun i=>at_ bounds i:=(by unfold cc;rw[qF qO]);have qh:∀v,v<=m->kk m ks v=0:=fun v hv=>(by unfold kk;split;{rename_i h;exact hk v h};rfl);refine⟨⟨by show(bounds.map _).length=m;rw[xV,hm],by show(List.range _).length=m;rw[kZm,hm],by show 0+m=m;omega,fun k hk=>by rw[qf k hk];rfl,rfl,fun j hj=>absurd hj (by show¬j<0;omega),fun j k hj=>absurd hj (by show¬j<0;omega),fun j l hj=>absurd hj (by show¬j<0;omega),fun k j hk hj=>absurd hj (by show¬j<0;omega),fun j hj=>absurd hj (by show¬j<0;omega),fun k hk=>by rw[qf k hk,qg k hk],(qe m).symm,⟨fun l hl k hk=>?_,fun l hl=>by rw[qa l hl];exact hl⟩⟩,fun v hv=>⟨fun i hi=>?_,?_⟩,fun v hv=>⟨fun k hk2=>?_,?_⟩,fun k hk=>by rw[qg k hk];exact hb k hk,?_,rfl,hu,hk⟩;{rw[qa l hl];by_cases h:k<m;{exact hM k l h hl};obtain rfl:k=m:=qO;rw[qe,qF qO]};{have e1:(sm m fun l=>iV m bounds l v*cc m Cs (fun i=>at_ bounds i) (atN (newT bounds).bas l) i)=iV m bounds i v:=(by rw[sm_one m hi (fun l hl hli=>by rw[qa l hl,hc l hl,hu l hl i hi,qF (fun e=>hli e.symm)];grind),qa i hi,hc i hi,hu i hi i hi,qE rfl];grind);rw[e1];by_cases h:v<m;{rw[hc v h,hu v h i hi,hM i v hi h]};obtain rfl:v=m:=qO;rw[qi,qg i hi]};{rw[qe,qh v hv,sm_zero m (fun l hl=>by rw[qa l hl,qh l qO];grind)];grind};{have e1:(sm m fun i=>iV m bounds k i*cc m Cs (fun i=>at_ bounds i) v i)=cc m Cs (fun i=>at_ bounds i) v k:=(by rw[sm_one m hk2 (fun i hi hik=>by rw[hM k i hk2 hi,qF (fun e=>hik e.symm)];grind),hM k k hk2 hk2,qE rfl];grind);rw[e1];by_cases h:v<m;{rw[hc v h,hu v h k hk2,hM k v hk2 h]};obtain rfl:v=m:=qO;rw[qi,qg k hk2]};{rw[qe,qh v hv,sm_zero m (fun i hi=>by rw[qe];grind)];grind};have e1:dB m (cc m Cs (fun i=>at_ bounds i)) (atN (newT bounds).bas)=dt m (fun i j=>if i=j then 1 else 0):=lH m fun i hi l hl=>(by rw[qa l hl,hc l hl,hu l hl i hi]);rw[e1,jzcn];decide
theorem jzc0(c:Nat):∀n,pr n (fun _=>((c:Int):Rat))=(((c^n:Nat):Int):Rat)
 |0=>rfl
 |n+1=>by
  show pr n _*_=_;rw[jzc0 c n, <-kZu,vD,kZk]
theorem wK(c:Nat):∀n,sm n (fun _=>((c:Int):Rat))=(((n*c:Nat):Int):Rat)
 |0=>by show(0:Rat)=_;rw[Nat.zero_mul];rfl
 |n+1=>by
  show sm n _+_=_;rw[wK c n, <-Rat.intCast_add,Nat.succ_mul,kZv]
theorem jzlw(z:Int):ab (z:Rat)=((z.natAbs:Int):Rat):=by
 unfold ab;by_cases h:z<0;{rw[qE (show((z:Int):Rat)<0 from Rat.intCast_lt_intCast.2 h), <-Rat.intCast_neg];congr 1;omega};rw[qF (fun h2=>h (by have:=Rat.intCast_lt_intCast.1 (show((z:Int):Rat)<((0:Int):Rat)from h2);omega))];congr 1;omega
theorem pA{z:Int}{n:Nat}(h:ab (z:Rat)<=((n:Int):Rat)):z.natAbs<=n:=by
 rw[jzlw]at h;have:=kQt.1 h;omega
def SzZ(q:Rat)(Z:Nat):Prop:=q.num.natAbs<=Z/\q.den<=Z
theorem size_of{q:Rat}{D N:Int}{Z:Nat}(hD:D≠0)(h:q*(D:Rat)=(N:Rat))(h1:D.natAbs<=Z)(h2:N.natAbs<=Z):SzZ q Z:=by
 have hz:q.num*D=N*q.den:=(by have h3:((q.num:Int):Rat)=q*((q.den:Int):Rat):=(by have h:=Rat.num_divInt_den q;have h3:((q.den:Int):Rat)≠0:=fun e=>(by have:=Rat.intCast_inj.1 (show((q.den:Int):Rat)=((0:Int):Rat)from e);have:=q.den_nz;omega);rw[Rat.divInt_eq_div]at h;grind);have h5:((q.num*D:Int):Rat)=((N*(q.den:Int):Int):Rat):=(by rw[kZu,kZu,h3, <-h];grind);exact Rat.intCast_inj.1 h5);have qa:q.num.natAbs*D.natAbs=N.natAbs*q.den:=(by have:=congrArg Int.natAbs hz;rw[Int.natAbs_mul,Int.natAbs_mul,Int.natAbs_natCast]at this;exact this);have qg:q.den∣D.natAbs:=(by have hc:Nat.Coprime q.den q.num.natAbs:=q.reduced.symm;exact hc.dvd_of_dvd_mul_left ⟨N.natAbs,by rw[qa,vE]⟩);have qe:0<D.natAbs:=Int.natAbs_pos.2 hD;obtain⟨c,hc⟩:=qg;have qf:0<c:=(by (rcases kQm c with h3|h3);{rw[h3]at hc;omega};exact h3);refine⟨?_,yY (Nat.le_of_dvd qe ⟨c,hc⟩) h1⟩;have qh:q.num.natAbs*c=N.natAbs:=(by have h3:q.den*(q.num.natAbs*c)=q.den*N.natAbs:=(by rw[<-kQg,vE q.den q.num.natAbs,kQg, <-hc,qa,vE]);exact Nat.eq_of_mul_eq_mul_left q.den_pos h3);have:q.num.natAbs<=q.num.natAbs*c:=Nat.le_mul_of_pos_right _ qf;omega
theorem LPI.size{T:Tb}{m nv:Nat}{M:Nat->Nat->Rat}{Cs:Nat->Nat->Rat}{ks b:Nat->Rat}(h:LPI T m nv M Cs ks b)(C:Nat)
  (hi:∀v,v<nv->∀i,i<m->isI (Cs v i)) (hbi:∀i,i<m->isI (b i)) (hki:∀v,v<nv->isI (ks v))
  (hc:∀v,v<nv->(sm m fun i=>ab (Cs v i))<=((C:Int):Rat)) (hcb:(sm m fun i=>ab (b i))<=((C:Int):Rat)) (hk:∀v,v<nv->ab (ks v)<=1):
  ∃Dn:Int,Dn≠0/\Dn.natAbs<=C^m/\∀k v,k<=m->v<=nv->isI (M k v*(Dn:Rat))/\SzZ (M k v) ((m+1)*C^m):=by
 have qi:∀l,l<m->atN T.bas l<nv:=h.rep.di.lt;have ci:∀v,v<=nv->∀i,i<m->isI (cc nv Cs b v i):=fun v hv i hi2=>(by unfold cc;split;{rename_i h1;exact hi v h1 i hi2};exact hbi i hi2);have cn:∀v,v<=nv->(sm m fun i=>ab (cc nv Cs b v i))<=((C:Int):Rat):=fun v hv=>(by unfold cc;split;{rename_i h1;exact hc v h1};exact hcb);have kn:∀v,ab (kk nv ks v)<=1:=fun v=>(by unfold kk;split;{rename_i h1;exact hk v h1};decide);have ki:∀v,isI (kk nv ks v):=fun v=>(by unfold kk;split;{rename_i h1;exact hki v h1};exact isI.zero);have qf:∀a:Nat->Nat->Rat,(∀l,l<m->∃v,v<=nv/\∀i,i<m->a i l=cc nv Cs b v i)->isI (dt m a)/\ab (dt m a)<=(((C^m:Nat):Int):Rat):=fun a ha=>(by refine⟨jzco m fun i hi2 l hl=>?_,kQs (jzct m a) ?_⟩;{obtain⟨v,hv,e⟩:=ha l hl;rw[e i hi2];exact ci v hv i hi2};rw[<-jzc0];refine wH m (fun l _=>lG m fun i _=>oZ _) fun l hl=>?_;obtain⟨v,hv,e⟩:=ha l hl;have:(sm m fun i=>ab (a i l))=sm m fun i=>ab (cc nv Cs b v i):=sm_congr m fun i hi2=>(by rw[e i hi2]);rw[this];exact cn v hv);obtain⟨⟨D,hD⟩,qe⟩:=qf (fun i l=>cc nv Cs b (atN T.bas l) i) fun l hl=>⟨_,kQe (qi l hl),fun i _=>rfl⟩;have qj:dB m (cc nv Cs b) (atN T.bas)=(D:Rat):=hD;have qg:D≠0:=fun e=>h.det (by rw[qj,e];rfl);rw[hD]at qe;have qa:∀k,k<m->∀v,v<=nv->∃N:Int,M k v*(D:Rat)=(N:Rat)/\ab (N:Rat)<=(((C^m:Nat):Int):Rat):=fun k hk2 v hv=>(by have h1:=h.col.det hk2 hv;rw[qj]at h1;obtain⟨⟨N,hN⟩,qm⟩:=qf (rc (fun i l=>cc nv Cs b (atN T.bas l) i) k (cc nv Cs b v)) fun l hl=>(by by_cases e:l=k;{exact⟨v,hv,fun i _=>by rw[e,iT]⟩};exact⟨_,kQe (qi l hl),fun i _=>by rw[hJ _ _ _ e]⟩);exact⟨N,by rw[<-h1,hN],by rw[<-hN];exact qm⟩);have qh:C^m<=(m+1)*C^m:=Nat.le_mul_of_pos_left _ qO;refine⟨D,qg,pA qe,fun k v hk2 hv=>?_⟩;by_cases qk:k<m;{obtain⟨N,h1,h2⟩:=qa k qk v hv;exact⟨⟨N,h1⟩,size_of qg h1 (yY (pA qe) qh) (yY (pA h2) qh)⟩};obtain rfl:k=m:=qO;have h1:=(h.col v hv).2;have h2:M k v*(D:Rat)=(sm k fun l=>(M l v*(D:Rat))*kk nv ks (atN T.bas l))-kk nv ks v*(D:Rat):=(by rw[h1];have e1:(sm k fun l=>(M l v*(D:Rat))*kk nv ks (atN T.bas l))=sm k fun l=>(D:Rat)*(M l v*kk nv ks (atN T.bas l)):=sm_congr k fun l _=>qG;rw[e1,eT];grind);have hI:isI (M k v*(D:Rat)):=(by rw[h2];have h3:isI (sm k fun l=>(M l v*(D:Rat))*kk nv ks (atN T.bas l)):=isI.sm k fun l hl=>(by obtain⟨N,h4,_⟩:=qa l hl v hv;exact(show isI (M l v*(D:Rat))from⟨N,h4⟩).mul (ki _));have h4:isI (kk nv ks v*(D:Rat)):=(ki v).mul ⟨D,rfl⟩;have:=h3.add h4.neg;rwa [<-Rat.sub_eq_add_neg]at this);obtain⟨N,hN⟩:=hI;refine⟨⟨N,hN⟩,size_of qg hN (yY (pA qe) qh) (pA ?_)⟩;rw[<-hN,h2];have h5:ab ((sm k fun l=>(M l v*(D:Rat))*kk nv ks (atN T.bas l))-kk nv ks v*(D:Rat))<=ab (sm k fun l=>(M l v*(D:Rat))*kk nv ks (atN T.bas l))+ab (kk nv ks v*(D:Rat)):=(by have:=jzcp (sm k fun l=>(M l v*(D:Rat))*kk nv ks (atN T.bas l)) (-(kk nv ks v*(D:Rat)));rw[mB, <-Rat.sub_eq_add_neg]at this;exact this);have one:∀x y c:Rat,ab x<=c->ab y<=1->ab (x*y)<=c:=fun x y c hx hy=>(by rw[wF];have:=yT hy (oZ x);grind);have h6:ab (kk nv ks v*(D:Rat))<=(((C^k:Nat):Int):Rat):=(by rw[Rat.mul_comm];exact one _ _ _ qe (kn v));have h7:ab (sm k fun l=>(M l v*(D:Rat))*kk nv ks (atN T.bas l))<=(((k*C^k:Nat):Int):Rat):=(by refine kQs (wG k _) ?_;rw[<-wK];refine sm_le k fun l hl=>?_;obtain⟨N',h8,h9⟩:=qa l hl v hv;exact one _ _ _ (by rw[h8];exact h9) (kn _));have h8:((((k+1)*C^k:Nat):Int):Rat)=(((k*C^k:Nat):Int):Rat)+(((C^k:Nat):Int):Rat):=(by rw[<-Rat.intCast_add,Nat.succ_mul,kZv]);rw[h8];exact kQs h5 qG
section
variable {T:Tb} {m nv:Nat} {M:Nat->Nat->Rat} {Cs:Nat->Nat->Rat} {ks b:Nat->Rat}
theorem LPI.dual(h:LPI T m nv M Cs ks b):(∀v,v<nv->M m v=(sm m fun i=>M m i*Cs v i)-ks v)/\M m nv=sm m fun i=>M m i*b i:=by
 refine⟨fun v hv=>?_,?_⟩;{have:=(h.row v (kQe hv)).2;unfold cc kk at this;rw[qE hv]at this;simp only[qE hv]at this;exact this};have:=(h.row nv (yX _)).2;unfold cc kk at this;simp only[qF (kZr nv)]at this;rw[this];grind
theorem LPI.overall(h:LPI T m nv M Cs ks b)(g f:Nat->Rat):(sm m fun l=>g l*f (atN T.bas l))=sm nv fun v=>(sm m fun l=>if atN T.bas l=v then g l else 0)*f v:=by
 (have e1:(sm nv fun v=>(sm m fun l=>if atN T.bas l=v then g l else 0)*f v)=sm nv fun v=>sm m fun l=>if atN T.bas l=v then g l*f v else 0:=sm_congr nv fun v _=>(by rw[<-uV];exact sm_congr m fun l _=>(by by_cases e:atN T.bas l=v;{rw[qE e,qE e]};rw[qF e,qF e];grind)));rw[e1,nH];refine sm_congr m fun l hl=>?_;rw[sm_one nv (h.rep.di.lt l hl) (fun v _ hv=>by rw[qF (fun e=>hv e.symm)]),qE rfl]
def xOf(T:Tb)(m nv:Nat)(M:Nat->Nat->Rat)(v:Nat):Rat:=sm m fun l=>if atN T.bas l=v then M l nv else 0
theorem LPI.primal(h:LPI T m nv M Cs ks b):(∀v,0<=xOf T m nv M v)/\(∀i,i<m->b i=sm nv fun v=>xOf T m nv M v*Cs v i)/\M m nv=sm nv fun v=>xOf T m nv M v*ks v:=by
 refine⟨fun v=>lG m fun l hl=>?_,fun i hi=>?_,?_⟩;{split;{exact h.feas l hl};exact vC};{have h1:=(h.col nv (yX _)).1 i hi;have e1:cc nv Cs b nv i=b i:=(by unfold cc;rw[qF (kZr nv)]);rw[e1]at h1;rw[h1];have e2:(sm m fun l=>M l nv*cc nv Cs b (atN T.bas l) i)=sm m fun l=>M l nv*(fun v=>Cs v i) (atN T.bas l):=sm_congr m fun l hl=>(by unfold cc;rw[qE (h.rep.di.lt l hl)]);rw[e2];exact h.overall (fun l=>M l nv) fun v=>Cs v i};have h1:=(h.col nv (yX _)).2;have e1:kk nv ks nv=0:=(by unfold kk;rw[qF (kZr nv)]);rw[e1]at h1;rw[h1];have e2:(sm m fun l=>M l nv*kk nv ks (atN T.bas l))=sm m fun l=>M l nv*ks (atN T.bas l):=sm_congr m fun l hl=>(by unfold kk;rw[qE (h.rep.di.lt l hl)]);rw[e2,h.overall];unfold xOf;grind
theorem LPI.x_bas(h:LPI T m nv M Cs ks b){l:Nat}(hl:l<m):xOf T m nv M (atN T.bas l)=M l nv:=by
 unfold xOf;rw[sm_one m hl (fun k hk hkl=>by rw[qF (fun e=>hkl (h.rep.di.inj hk hl e))]),qE rfl]
theorem jzc1{v:Nat}(hv:∀l,l<m->atN T.bas l≠v):xOf T m nv M v=0:=
 sm_zero m fun l hl=>by rw[qF (hv l hl)]
theorem LPI.noray(h:LPI T m nv M Cs ks b)(hn:∀r:Nat->Rat,(∀v,v<nv->0<=r v)->(∀i,i<m->(sm nv fun v=>r v*Cs v i)=0)->∀v,v<nv->r v=0){j:Nat}(hj:j<T.fre.length):levT T j≠none:=fun hl=>by
 have qf:=wI T j _ hl;rw[h.rep.rl]at qf;have qa:=h.rep.fv j hj;have qg:∀l,l<m->atN T.bas l≠atN T.fre j:=fun l hl e=>h.rep.fb j l hj hl e.symm;have qe:∀l,l<m->0<= -M l (atN T.fre j):=fun l hl=>(by have:=qf l hl;rw[h.rep.co l j hl hj]at this;grind)
 have hr:=hn (fun v=>(if v=atN T.fre j then 1 else 0)+sm m fun l=>if atN T.bas l=v then-M l (atN T.fre j)else 0) (fun v _=>by
  have h1:(0:Rat)<=sm m fun l=>if atN T.bas l=v then-M l (atN T.fre j)else 0:=lG m fun l hl=>(by split;{exact qe l hl};exact vC)
  split <;> grind) (fun i hi=>by
  have e1:(sm nv fun v=>((if v=atN T.fre j then 1 else 0)+sm m fun l=>if atN T.bas l=v then-M l (atN T.fre j)else 0)*Cs v i)=sm nv fun v=>(if v=atN T.fre j then Cs v i else 0)+(sm m fun l=>if atN T.bas l=v then-M l (atN T.fre j)else 0)*Cs v i:=sm_congr nv fun v _=>(by split <;> grind);rw[e1,sm_add,sm_one nv qa (fun v _ hv=>by rw[qF hv]),qE rfl, <-h.overall (fun l=> -M l (atN T.fre j)) (fun v=>Cs v i)];have h1:=(h.col (atN T.fre j) (kQe qa)).1 i hi;have e2:cc nv Cs b (atN T.fre j) i=Cs (atN T.fre j) i:=(by unfold cc;rw[qE qa]);have e3:(sm m fun l=>M l (atN T.fre j)*cc nv Cs b (atN T.bas l) i)=sm m fun l=>M l (atN T.fre j)*Cs (atN T.bas l) i:=sm_congr m fun l hl=>(by unfold cc;rw[qE (h.rep.di.lt l hl)]);rw[e2,e3]at h1;have e4:(sm m fun l=> -M l (atN T.fre j)*Cs (atN T.bas l) i)=(-1)*sm m fun l=>M l (atN T.fre j)*Cs (atN T.bas l) i:=(by rw[<-eT];exact sm_congr m fun l _=>qG)
  rw[e4, <-h1];grind) (atN T.fre j) qa
 rw[qE rfl,sm_zero m (fun l hl=>by rw[qF (qg l hl)])]at hr;rw[Rat.add_zero]at hr;exact absurd hr qD
end
end Sx
namespace Sx
theorem mC(m:Nat)(f:Nat->Rat):∀k,sm (m+k) f=sm m f+sm k fun i=>f (m+i)
 |0=>by show sm m f=sm m f+0;grind
 |k+1=>by
  show sm (m+k) f+f (m+k)=sm m f+(sm k (fun i=>f (m+i))+f (m+k));rw[mC m f k];grind
theorem rX(m k:Nat)(f:Nat->Rat):sm (m+1+k) f=sm m f+f m+sm k fun i=>f (m+1+i):=by rw[mC];rfl
theorem jzc2:∀(n:Nat) {f:Nat->Rat},(∀k,k<n->0<=f k)->sm n f=0->∀k,k<n->f k=0
 |n+1,f,h,h0,k,hk=>by
  have h0:sm n f+f n=0:=h0;have h1:=lG n fun k hk=>h k qO;have h2:=h n qO;by_cases e:k=n
  ·rw[e];grind
  ·exact jzc2 n (fun k hk=>h k qO) qG k qO
def vcol(L2:Nat)(am:Nat->Rat)(i:Nat):Rat:=if i<L2 then 0 else am (i-L2)
def pcol(L2:Nat)(p:Nat×LN)(i:Nat):Rat:=if i<L2 then(if i∈p.2 then 1 else 0)else if i=L2+p.1 then-1 else 0
def FC(L2 D:Nat)(am:Nat->Rat)(P:List (Nat×LN))(v i:Nat):Rat:=
 if v<L2+D then(if i=v then 1 else 0)else if v=L2+D then vcol L2 am i else pcol L2 (P[v-(L2+D+1)]?.getD (0,[])) i
def FK(m v:Nat):Rat:=if v=m then 1 else 0
def fb(L2:Nat)(cap:Nat->Rat)(i:Nat):Rat:=if i<L2 then cap i else 0
theorem mD(L2 D:Nat)(am:Nat->Rat)(P:List (Nat×LN)){v:Nat}(hv:v<L2+D)(i:Nat):FC L2 D am P v i=if i=v then 1 else 0:=qE hv
theorem kT(L2 D:Nat)(am:Nat->Rat)(P:List (Nat×LN))(i:Nat):FC L2 D am P (L2+D) i=vcol L2 am i:=by unfold FC;rw[qF (kZr _),qE rfl]
theorem mE(L2 D:Nat)(am:Nat->Rat)(P:List (Nat×LN))(k i:Nat):FC L2 D am P (L2+D+1+k) i=pcol L2 (P[k]?.getD (0,[])) i:=by
 unfold FC;rw[qF qO,qF qO,show L2+D+1+k-(L2+D+1)=k by omega]
theorem jzlx(L2 D:Nat)(am:Nat->Rat)(P:List (Nat×LN))(p:Nat×LN){v:Nat}(hv:v<L2+D+1+P.length):FC L2 D am (P++[p]) v=FC L2 D am P v:=by
 funext i;unfold FC;by_cases h1:v<L2+D;{rw[qE h1,qE h1]};by_cases h2:v=L2+D;{rw[qF h1,qF h1,qE h2,qE h2]};rw[qF h1,qF h1,qF h2,qF h2,yR qO]
theorem LPI.congr{T:Tb}{m nv:Nat}{M:Nat->Nat->Rat}{Cs:Nat->Nat->Rat}{ks b b':Nat->Rat}(h:LPI T m nv M Cs ks b)(hb:∀i,i<m->b i=b' i):LPI T m nv M Cs ks b':=by
 have hc:∀v i,i<m->cc nv Cs b' v i=cc nv Cs b v i:=fun v i hi=>(by unfold cc;split;{rfl};exact(hb i hi).symm);refine⟨h.rep,fun v hv=>⟨fun i hi=>?_,(h.col v hv).2⟩,fun v hv=>⟨fun k hk=>?_,?_⟩,h.feas,?_,h.cols,h.unit,h.free⟩;{rw[hc v i hi,(h.col v hv).1 i hi];exact sm_congr m fun l _=>by rw[hc _ i hi]};{rw[(h.row v hv).1 k hk];exact sm_congr m fun i hi=>by rw[hc v i hi]};{rw[(h.row v hv).2];congr 1;exact sm_congr m fun i hi=>by rw[hc v i hi]};have:dB m (cc nv Cs b') (atN T.bas)=dB m (cc nv Cs b) (atN T.bas):=lH m fun i hi l _=>hc _ i hi;rw[this];exact h.det
section
variable {L2 D:Nat} {am cap:Nat->Rat} {P:List (Nat×List Nat)}
theorem jzly(hD:0<D)(ham:∀d,d<D->0<am d)(hP:∀p∈P,∃a,a∈p.2/\a<L2):∀r:Nat->Rat,(∀v,v<L2+D+1+P.length->0<=r v)->(∀i,i<L2+D->(sm (L2+D+1+P.length) fun v=>r v*FC L2 D am P v i)=0)->∀v,v<L2+D+1+P.length->r v=0:=fun r hr h=>by
 have qh:∀i,i<L2+D->(sm (L2+D) fun v=>r v*FC L2 D am P v i)=r i:=fun i hi=>(by rw[sm_one (L2+D) hi (fun v hv hvi=>by rw[mD _ _ _ _ hv,qF (fun e=>hvi e.symm)];grind),mD _ _ _ _ hi,qE rfl];grind);have qf:∀a,a<L2->r a=0/\∀k,k<P.length->r (L2+D+1+k)*pcol L2 (P[k]?.getD (0,[])) a=0:=fun a ha=>(by have h1:=h a qO;rw[rX,qh a qO,kT]at h1;have e1:vcol L2 am a=0:=qE ha;have e2:(sm P.length fun k=>r (L2+D+1+k)*FC L2 D am P (L2+D+1+k) a)=sm P.length fun k=>r (L2+D+1+k)*pcol L2 (P[k]?.getD (0,[])) a:=sm_congr _ fun k _=>(by rw[mE]);rw[e1,e2]at h1;have qi:∀k,k<P.length->0<=r (L2+D+1+k)*pcol L2 (P[k]?.getD (0,[])) a:=fun k hk=>(by refine vA (hr _ qO) ?_;unfold pcol;rw[qE ha];split;{decide};exact vC);have h2:=lG _ qi;have h3:=hr a qO;exact⟨qG,jzc2 _ qi qG⟩);have qa:∀k,k<P.length->r (L2+D+1+k)=0:=fun k hk=>(by obtain⟨a,ha,qj⟩:=hP P[k] (xR hk);have h1:=(qf a qj).2 k hk;rw[yG hk]at h1;have h2:pcol L2 ((some P[k]).getD (0,[])) a=1:=(by unfold pcol;rw[qE qj];exact qE ha);rw[h2]at h1;grind);have qe:∀d,d<D->r (L2+d)+r (L2+D)*am d=0:=fun d hd=>(by have h1:=h (L2+d) qO;rw[rX,qh _ qO,kT,sm_zero P.length (fun k hk=>by rw[qa k hk];grind)]at h1;have e1:vcol L2 am (L2+d)=am d:=(by unfold vcol;rw[qF qO,show L2+d-L2=d by omega]);rw[e1]at h1;grind);have qg:r (L2+D)=0:=(by (have h1:=qe 0 hD;have h2:=hr (L2+0) qO;have h3:=hr (L2+D) qO;have h4:=ham 0 hD;have h5:=vA h3 (vB h4);have h6:r (L2+D)*am 0=0:=qG;rcases Rat.mul_eq_zero.1 h6 with h7|h7);{exact h7};grind);intro v hv;by_cases h1:v<L2;{exact(qf v h1).1};by_cases h2:v<L2+D;{have h3:=qe (v-L2) qO;rw[qg,show L2+(v-L2)=v by omega]at h3;grind};by_cases h3:v=L2+D;{rw[h3];exact qg};have:=qa (v-(L2+D+1)) qO;rw[show L2+D+1+(v-(L2+D+1))=v by omega]at this;exact this
theorem jzlz{T:Tb}{M:Nat->Nat->Rat}(h:LPI T (L2+D) (L2+D+1+P.length) M (FC L2 D am P) (FK (L2+D)) (fb L2 cap))(hg:∀v,v<L2+D+1+P.length->0<=M (L2+D) v):
  (sm L2 fun a=>M (L2+D) a*cap a)=M (L2+D) (L2+D+1+P.length)/\
  1<=(sm D fun d=>M (L2+D) (L2+d)*am d)/\
  (∀k,k<P.length->(P[k]?.getD (0,[])).1<D->M (L2+D) (L2+(P[k]?.getD (0,[])).1)<=sm L2 fun a=>if a∈(P[k]?.getD (0,[])).2 then M (L2+D) a else 0):=by
 obtain⟨h1,h2⟩:=h.dual;refine⟨?_,?_,fun k hk hd=>?_⟩;{rw[h2,mC L2 _ D,sm_zero D (fun d hd=>by unfold fb;rw[qF qO];grind)];have:(sm L2 fun i=>M (L2+D) i*fb L2 cap i)=sm L2 fun a=>M (L2+D) a*cap a:=sm_congr L2 fun a ha=>(by unfold fb;rw[qE ha]);rw[this];grind};{have h3:=h1 (L2+D) qO;have h4:=hg (L2+D) qO;rw[mC L2 _ D,sm_zero L2 (fun a ha=>by rw[kT];unfold vcol;rw[qE ha];grind)]at h3;have e1:(sm D fun d=>M (L2+D) (L2+d)*FC L2 D am P (L2+D) (L2+d))=sm D fun d=>M (L2+D) (L2+d)*am d:=sm_congr D fun d _=>(by rw[kT];unfold vcol;rw[qF qO,show L2+d-L2=d by omega]);have e2:FK (L2+D) (L2+D)=1:=qE rfl;rw[e1,e2]at h3;grind};(have h3:=h1 (L2+D+1+k) qO;have h4:=hg (L2+D+1+k) qO;have e2:FK (L2+D) (L2+D+1+k)=0:=qF qO;rw[e2,mC L2 _ D]at h3;have e1:(sm L2 fun a=>M (L2+D) a*FC L2 D am P (L2+D+1+k) a)=sm L2 fun a=>if a∈(P[k]?.getD (0,[])).2 then M (L2+D) a else 0:=sm_congr L2 fun a ha=>(by rw[mE];unfold pcol;rw[qE ha];split <;> grind));have e3:(sm D fun d=>M (L2+D) (L2+d)*FC L2 D am P (L2+D+1+k) (L2+d))= -M (L2+D) (L2+(P[k]?.getD (0,[])).1):=(by rw[sm_one D hd (fun d _ hne=>by rw[mE];unfold pcol;rw[qF qO,qF qO];grind),mE];unfold pcol;rw[qF qO,qE rfl];grind);rw[e1,e3]at h3;grind
theorem jzl0{T:Tb}{M:Nat->Nat->Rat}(h:LPI T (L2+D) (L2+D+1+P.length) M (FC L2 D am P) (FK (L2+D)) (fb L2 cap)):
  (∀v,0<=xOf T (L2+D) (L2+D+1+P.length) M v)/\
  M (L2+D) (L2+D+1+P.length)=xOf T (L2+D) (L2+D+1+P.length) M (L2+D)/\
  (∀a,a<L2->(sm P.length fun k=>if a∈(P[k]?.getD (0,[])).2 then xOf T (L2+D) (L2+D+1+P.length) M (L2+D+1+k)else 0)<=cap a)/\
  (∀d,d<D->M (L2+D) (L2+D+1+P.length)*am d<=sm P.length fun k=>if(P[k]?.getD (0,[])).1=d then xOf T (L2+D) (L2+D+1+P.length) M (L2+D+1+k)else 0):=by
 obtain⟨h1,h2,h3⟩:=h.primal;generalize hx:xOf T (L2+D) (L2+D+1+P.length) M=x at*;have hv:M (L2+D) (L2+D+1+P.length)=x (L2+D):=(by rw[h3,sm_one (L2+D+1+P.length) (show L2+D<L2+D+1+P.length by omega) (fun v _ hv=>by rw[show FK (L2+D) v=0 from qF hv];grind),show FK (L2+D) (L2+D)=1 from qE rfl];grind);have qa:∀i,i<L2+D->(sm (L2+D) fun v=>x v*FC L2 D am P v i)=x i:=fun i hi=>(by rw[sm_one (L2+D) hi (fun v hv hvi=>by rw[mD _ _ _ _ hv,qF (fun e=>hvi e.symm)];grind),mD _ _ _ _ hi,qE rfl];grind);refine⟨h1,hv,fun a ha=>?_,fun d hd=>?_⟩;{have h4:=h2 a qO;(rw[rX,qa a qO,kT]at h4;have e1:vcol L2 am a=0:=qE ha;have e2:(sm P.length fun k=>x (L2+D+1+k)*FC L2 D am P (L2+D+1+k) a)=sm P.length fun k=>if a∈(P[k]?.getD (0,[])).2 then x (L2+D+1+k)else 0:=sm_congr _ fun k _=>(by rw[mE];unfold pcol;rw[qE ha];split <;> grind));have e3:fb L2 cap a=cap a:=qE ha;rw[e1,e2,e3]at h4;have:=h1 a;grind};(have h4:=h2 (L2+d) qO;rw[rX,qa _ qO,kT]at h4;have e1:vcol L2 am (L2+d)=am d:=(by unfold vcol;rw[qF qO,show L2+d-L2=d by omega]);have e2:(sm P.length fun k=>x (L2+D+1+k)*FC L2 D am P (L2+D+1+k) (L2+d))=(-1)*sm P.length fun k=>if(P[k]?.getD (0,[])).1=d then x (L2+D+1+k)else 0:=(by rw[<-eT];refine sm_congr _ fun k _=>?_;rw[mE];unfold pcol;rw[qF qO];by_cases e:(P[k]?.getD (0,[])).1=d;{rw[qE qO,qE e];grind};rw[qF qO,qF e];grind));have e3:fb L2 cap (L2+d)=0:=qF qO;rw[e1,e2,e3]at h4;rw[hv];have:=h1 (L2+d);grind
def FLP(L2 D:Nat)(am cap:Nat->Rat)(T:Tb)(P:List (Nat×LN)):Prop:=∃M,LPI T (L2+D) (L2+D+1+P.length) M (FC L2 D am P) (FK (L2+D)) (fb L2 cap)
theorem FLP.start{bounds vals:LQ}(hb:bounds.length=L2+D)(hbv:∀i,i<L2+D->at_ bounds i=fb L2 cap i)(hcap:∀a,a<L2->0<=cap a)(hv:vals.length=L2+D)(hvv:∀i,i<L2+D->at_ vals i=vcol L2 am i):FLP L2 D am cap (addT (newT bounds) 1 vals) []:=by
 have h0:=LPI.start bounds hb (fun k hk=>by rw[hbv k hk];unfold fb;split;{rename_i h;exact hcap k h};exact vC) (Cs:=FC L2 D am []) (ks:=FK (L2+D)) (fun j hj i _=>mD _ _ _ _ hj i) (fun j hj=>qF qO);have h1:=h0.add (1:Rat) vals hv (Cs':=FC L2 D am []) (ks':=FK (L2+D)) (fun v _=>rfl) (fun i hi=>by rw[kT,hvv i hi]) (fun v _=>rfl) (qE rfl);exact⟨_,h1.congr hbv⟩
theorem FLP.add{T:Tb}{p:Nat×LN}{vals:LQ}(h:FLP L2 D am cap T P)(hv:vals.length=L2+D)(hvv:∀i,i<L2+D->at_ vals i=pcol L2 p i):FLP L2 D am cap (addT T 0 vals) (P++[p]):=by
 obtain⟨M,h⟩:=h;have h1:=h.add (0:Rat) vals hv (Cs':=FC L2 D am (P++[p])) (ks':=FK (L2+D)) (fun v hv=>jzlx _ _ _ _ _ hv) (fun i hi=>by rw[mE,yS (yX _),Nat.sub_self];exact(hvv i hi).symm) (fun v _=>rfl) (qF qO);rw[show L2+D+1+P.length+1=L2+D+1+(P++[p]).length by simp;omega]at h1;exact⟨_,h1⟩
theorem FLP.iter{T:Tb}(h:FLP L2 D am cap T P)(n:Nat):FLP L2 D am cap (iterT n T) P:=by
 obtain⟨M,h⟩:=h;obtain⟨M',h'⟩:=h.iter n;exact⟨M',h'⟩
theorem FLP.max{T:Tb}(h:FLP L2 D am cap T P)(hD:0<D)(ham:∀d,d<D->0<am d)(hP:∀p∈P,∃a,a∈p.2/\a<L2):∃N,entT (iterT N T)=none/\∀n,n<N->∃j i,entT (iterT n T)=some j/\levT (iterT n T) j=some i:=by
 obtain⟨M,h0⟩:=h;obtain⟨N,h1,h2⟩:=jzls h0.rep h0.feas;have qa:∀n j,entT (iterT n T)=some j->levT (iterT n T) j≠none:=fun n j hj=>(by obtain⟨M',h3⟩:=h0.iter n;have h4:=(entN_some _ _ hj).1;rw[h3.rep.gl]at h4;exact h3.noray (jzly hD ham hP) h4);refine⟨N,?_,fun n hn=>?_⟩;{(cases h3:entT (iterT N T)with|none=>rfl|some j=>(exfalso;have h4:=qa N j h3;unfold stepT at h1;rw[h3]at h1;simp only[]at h1;cases h5:levT (iterT N T) j with|none=>exact h4 h5|some i=>rw[h5]at h1;cases h1))};(have h3:=h2 n hn;cases h4:stepT (iterT n T)with|none=>exact absurd h4 h3|some T'=>obtain⟨i,j,g1,g2,_⟩:=stepT_some h4;exact⟨j,i,g1,g2⟩)
theorem jzc3(L2:Nat)(p:Nat×LN)(i:Nat):pcol L2 p i=0\/pcol L2 p i=1\/pcol L2 p i= -1:=by
 unfold pcol;split;{split;{exact .inr (.inl rfl)};exact .inl rfl};split;{exact .inr (.inr rfl)};exact .inl rfl
theorem FLP.size{T:Tb}(h:FLP L2 D am cap T P)(C:Nat)(hC:L2+D<=C)(hC1:1<=C)(hca:∀a,a<L2->isI (cap a)/\0<=cap a)(ham:∀d,d<D->isI (am d)/\0<=am d)(hsc:sm L2 cap<=((C:Int):Rat))(hsa:sm D am<=((C:Int):Rat)):
  ∃M,LPI T (L2+D) (L2+D+1+P.length) M (FC L2 D am P) (FK (L2+D)) (fb L2 cap)/\∃Dn:Int,Dn≠0/\Dn.natAbs<=C^(L2+D)/\∀k v,k<=L2+D->v<=L2+D+1+P.length->isI (M k v*(Dn:Rat))/\SzZ (M k v) ((L2+D+1)*C^(L2+D)):=by
 obtain⟨M,h⟩:=h;have c1:((1:Int):Rat)<=((C:Int):Rat):=kQt.2 qO;refine⟨M,h,h.size C (fun v hv i hi=>?_) (fun i hi=>?_) (fun v hv=>?_) (fun v hv=>?_) ?_ (fun v hv=>?_)⟩;{unfold FC;split;{split;{exact isI.one};exact isI.zero};split;{unfold vcol;split;{exact isI.zero};exact(ham _ qO).1};(rcases jzc3 L2 (P[v-(L2+D+1)]?.getD (0,[])) i with e|e|e);{rw[e];exact isI.zero};{rw[e];exact isI.one};rw[e];exact isI.one.neg};{unfold fb;split;{rename_i h1;exact(hca i h1).1};exact isI.zero};{unfold FK;split;{exact isI.one};exact isI.zero};{by_cases h1:v<L2+D;{rw[sm_one (L2+D) h1 (fun i _ hi=>by rw[mD _ _ _ _ h1,qF hi];rfl),mD _ _ _ _ h1,qE rfl];exact kQs (show ab 1<=((1:Int):Rat) by decide) c1};by_cases h2:v=L2+D;{subst h2;rw[mC L2 _ D,sm_zero L2 (fun i hi=>by rw[kT];unfold vcol;rw[qE hi];rfl)];have:(sm D fun d=>ab (FC L2 D am P (L2+D) (L2+d)))=sm D am:=sm_congr D fun d hd=>(by rw[kT];unfold vcol;rw[qF qO,show L2+d-L2=d by omega];unfold ab;rw[qF (kQ4.2 (ham d hd).2)]);rw[this];grind};have h3:∀i,ab (FC L2 D am P v i)<=((1:Int):Rat):=fun i=>(by (unfold FC;rw[qF h1,qF h2];rcases jzc3 L2 (P[v-(L2+D+1)]?.getD (0,[])) i with e|e|e);{rw[e];decide};{rw[e];decide};rw[e];decide);refine kQs (sm_le (L2+D) (g:=fun _=>((1:Nat):Int)) fun i _=>h3 i) ?_;rw[wK 1 (L2+D),Nat.mul_one];exact kQt.2 qO};{rw[mC L2 _ D,sm_zero D (fun d _=>by unfold fb;rw[qF qO];rfl)];have:(sm L2 fun i=>ab (fb L2 cap i))=sm L2 cap:=sm_congr L2 fun a ha=>(by unfold fb;rw[qE ha];unfold ab;rw[qF (kQ4.2 (hca a ha).2)]);rw[this];grind};unfold FK;split;{decide};decide
end
end Sx
end Go.Proofs.YtojpooidhilnfaaGreatDoor
