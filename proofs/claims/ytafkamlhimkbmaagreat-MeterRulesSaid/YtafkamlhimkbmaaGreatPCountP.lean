/-
  Plainly: what the assignments of an edge weigh together, level by level and node by node.
-/
import Derived.Test.YtafkamlhimkbmaaGreatPMeansA
namespace Go.Proofs.YtafkamlhimkbmaaGreat
set_option maxRecDepth 1000000
set_option maxHeartbeats 8000000
set_option linter.unusedSimpArgs false
set_option linter.unusedVariables false
def wX (lo hi:Nat→Int)(g:Int→Bool):Nat→Nat→Int→Int
 |0,_,x=>if g x then 1 else 0
 |k+1,m,x=>lo m*wX lo hi g k (m+1) x+hi m*wX lo hi g k (m+1) (x+2 ^ m)
theorem qz {lo hi:Nat→Int}{g g':Int→Bool}:∀(k m:Nat) (x t:Int),(∀s:Nat,g (x+2 ^ m*(s:Int))=g' (t+2 ^ m*(s:Int)))→wX lo hi g k m x=wX lo hi g' k m t:=by
 intro k;induction k with
 |zero=>
  intro m x t h;have:=h 0;simp at this;show(if g x then(1:Int)else 0)=if g' t then 1 else 0;rw[this]
 |succ k u=>
  intro m x t h;show lo m*wX lo hi g k (m+1) x+hi m*wX lo hi g k (m+1) (x+2 ^ m)=lo m*wX lo hi g' k (m+1) t+hi m*wX lo hi g' k (m+1) (t+2 ^ m);rw[u (m+1) x t (fun s=>?_),u (m+1) (x+2 ^ m) (t+2 ^ m) (fun s=>?_)]
  ·have:=h (1+2*s);push_cast at this
   rw[show x+2 ^ m+2 ^ (m+1)*(s:Int)=x+2 ^ m*(1+2*(s:Int)) by rw[Int.pow_succ];rw[Int.mul_add,Int.mul_one,←Int.mul_assoc];omega,
    show t+2 ^ m+2 ^ (m+1)*(s:Int)=t+2 ^ m*(1+2*(s:Int)) by rw[Int.pow_succ];rw[Int.mul_add,Int.mul_one,←Int.mul_assoc];omega]
   exact this
  ·have:=h (2*s);push_cast at this
   rw[show x+2 ^ (m+1)*(s:Int)=x+2 ^ m*(2*(s:Int)) by rw[Int.pow_succ,←Int.mul_assoc],
    show t+2 ^ (m+1)*(s:Int)=t+2 ^ m*(2*(s:Int)) by rw[Int.pow_succ,←Int.mul_assoc]]
   exact this
theorem qx {lo hi:Nat→Int}{g:Int→Bool}(h:∀x,g x=false):∀(k m:Nat) (x:Int),wX lo hi g k m x=0:=by
 intro k;induction k with
 |zero=>intro m x;show(if g x then(1:Int)else 0)=0;rw[h x];rfl
 |succ k s=>
  intro m x;show lo m*wX lo hi g k (m+1) x+hi m*wX lo hi g k (m+1) (x+2 ^ m)=0;rw[s,s,Int.mul_zero,Int.mul_zero];rfl
def fQ (g:Int→Bool)(m:Nat):Prop:=∀x s,(∀j:Int,(m:Int)≤j→aO x j=aO s j)→g x=g s
theorem kZ {lo hi:Nat→Int}{g g0 g1:Int→Bool}{k m:Nat}(z:fQ g1 (m+1))(t:∀x,aO x (m:Int)=false→g x=g0 x)(u:∀x,aO x (m:Int)=true→g x=g1 x) :
  wX lo hi g (k+1) m 0=lo m*wX lo hi g0 k (m+1) 0+hi m*wX lo hi g1 k (m+1) 0:=by
 show lo m*wX lo hi g k (m+1) 0+hi m*wX lo hi g k (m+1) (0+2 ^ m)=_
 rw[qz (g':=g0) k (m+1) 0 0 (fun s=>t _ (rI m s)),qz (g':=g1) k (m+1) (0+2 ^ m) 0 (fun s=>(u _ (rH m s)).trans (z _ _ (fun j t=>rG m s j (by push_cast at t;omega))))]
theorem qw {lo hi:Nat→Int}{g g1:Int→Bool}{k m:Nat}(s:fQ g1 (m+1))(e:∀x,g x=g1 x):wX lo hi g (k+1) m 0=(lo m+hi m)*wX lo hi g1 k (m+1) 0:=by
 rw[kZ s (fun x _=>e x) (fun x _=>e x),Int.add_mul]
def wE (lo hi:Nat→Int)(M:St)(f:Int)(e:Edge)(l:Int):Int:=wX lo hi (fun x=>tv M f x l e) (M.n-l).toNat l.toNat 0
theorem kX {lo hi:Nat→Int}{M:St}{f l:Int}{e:Edge}(s:e.to=0):wE lo hi M f e l=0:=qx (fun _=>cQ s) _ _ _
theorem qu {lo hi:Nat→Int}{M:St}{f l:Int}{e:Edge}(s:e.to≠0)(t:M.n=l):wE lo hi M f e l=1:=by
 unfold wE;rw[show(M.n-l).toNat=0 by omega];show(if tv M f 0 l e then(1:Int)else 0)=1;rw[qh s (by omega)];rfl
theorem jU {M:St}(h:M.wf){f:Int}{m:Nat}{e:Edge}(t:aW M f (m:Int) e):fQ (fun x=>tv M f x (m:Int) e) m:=fun _ _ s=>zH h t s
theorem qA {M:St}{f l:Int}{e:Edge}(u:aW M f l e)(t:l<M.n)(s:look M.cs e.to=none∨∃r,look M.cs e.to=some r∧l<r.top):aW M f (l+1) e:=by
 rcases u.next t with⟨_,q⟩|⟨r,a,b,⟨_,q⟩|c⟩
 ·exact q
 ·exact q
 ·rcases s with s|⟨u,s,t⟩;·rw[s]at a;cases a
  ·rw[s]at a;cases a;omega
theorem Af {lo hi:Nat→Int}{M:St}(h:M.wf){f:Int}{m:Nat}{e:Edge}(E:aW M f (m:Int) e)(D:(m:Int)<M.n)(z:look M.cs e.to=none∨∃r,look M.cs e.to=some r∧(m:Int)<r.top) :
  wE lo hi M f e (m:Int)=(if ct f e (m:Int)then lo m else lo m+hi m)*wE lo hi M f e ((m+1:Nat):Int):=by
 by_cases t:e.to=0
 ·rw[kX t,kX t,Int.mul_zero]
 have I:aW M f ((m+1:Nat):Int) e:=by push_cast;exact qA E D z
 have hs:=fun x=>ix (f:=f) (x:=x) t D z
 unfold wE
 rw[show(M.n-(m:Int)).toNat=(M.n-((m+1:Nat):Int)).toNat+1 by push_cast;omega,bG,bG]
 cases u:ct f e (m:Int)with
 |false=>
  rw[ag (by simp)];refine qw (jU h I) (fun x=>?_);rw[hs x,u,Bool.false_and,ag (by simp)];push_cast;rfl
 |true=>
  rw[ai rfl,kZ (g0:=fun x=>tv M f x ((m+1:Nat):Int) e) (g1:=fun _=>false) (fun _ _ _=>rfl) (fun x s=>?_) (fun x s=>?_),qx (fun _=>rfl),Int.mul_zero,Int.add_zero]
  ·rw[hs x,u,s,Bool.and_false,ag (by simp)];push_cast;rfl
  ·rw[hs x,u,s];rfl
def aF (h:Nat→Int)(m:Nat):Nat→Int
 |0=>1
 |d+1=>aF h m d*h (m+d)
theorem jP (h:Nat→Int):∀(d m:Nat),aF h m (d+1)=h m*aF h (m+1) d:=by
 intro d;induction d with
 |zero=>intro m;show 1*h (m+0)=h m*1;simp
 |succ d s=>
  intro m;show aF h m (d+1)*h (m+(d+1))=h m*(aF h (m+1) d*h (m+1+d));rw[s m,Int.mul_assoc,show m+(d+1)=m+1+d by omega]
theorem xy (h:Nat→Int)(m a:Nat):∀b,aF h m (a+b)=aF h m a*aF h (m+a) b:=by
 intro b;induction b with
 |zero=>show aF h m a=aF h m a*1;rw[Int.mul_one]
 |succ b s=>
  show aF h m (a+b)*h (m+(a+b))=aF h m a*(aF h (m+a) b*h (m+a+b));rw[s,Int.mul_assoc,Nat.add_assoc]
def kI (lo hi:Nat→Int)(f:Int)(e:Edge)(m:Nat):Int:=if ct f e (m:Int)then lo m else lo m+hi m
theorem Ag {lo hi:Nat→Int}{M:St}(h:M.wf){f:Int}{e:Edge}{top:Nat}(s:(top:Int)≤M.n)(u:look M.cs e.to=none∨∃r,look M.cs e.to=some r∧(top:Int)≤r.top) :
  ∀(d m:Nat),m+d=top→aW M f (m:Int) e→wE lo hi M f e (m:Int)=aF (kI lo hi f e) m d*wE lo hi M f e (top:Int):=by
 intro d
 induction d with
 |zero=>intro m hm _;rw[←hm];show _=1*_;rw[Int.one_mul];rfl
 |succ d z=>
  intro m hm t;have s:look M.cs e.to=none∨∃r,look M.cs e.to=some r∧(m:Int)<r.top:=u.imp id (fun⟨r,a,b⟩=>⟨r,a,by omega⟩);have u:=qA t (by omega) s;rw[Af h t (by omega) s,z (m+1) (by omega) (by push_cast;exact u),jP,Int.mul_assoc];rfl
theorem pe {h h':Nat→Int}{m:Nat}:∀d,(∀j,m≤j→j<m+d→h j=h' j)→aF h m d=aF h' m d:=by
 intro d;induction d with
 |zero=>intro _;rfl
 |succ d t=>
  intro s;show aF h m d*h (m+d)=aF h' m d*h' (m+d);rw[t (fun j a b=>s j a (by omega)),s (m+d) (by omega) (by omega)]
def eD (lo hi:Nat→Int)(m:Nat):Int:=lo m+hi m
theorem wW {lo hi:Nat→Int}{f:Int}(O:1≤f∧f≤5){e:Edge}{m top c:Nat}(Q:m≤top)(u:(c:Int)=dO f e (m:Int) (top:Int))(J:f=5→(m:Int)≤e.tag∧e.tag≤(top:Int)) :
  m≤c∧c≤top∧aF (kI lo hi f e) m (top-m)=aF (eD lo hi) m (c-m)*aF lo c (top-c):=by
 have N:m≤c∧c≤top∧(∀j:Nat,m≤j→j<top→ct f e (j:Int)=decide (c≤j)):=by
  unfold dO at u;split at u
  ·rename_i z;refine⟨by omega,by omega,fun j s t=>?_⟩;rw[bQ (by omega)];rcases z with rfl|rfl<;>rfl
  ·split at u
   ·rename_i I;subst I;have:=J rfl;refine⟨by omega,by omega,fun j s t=>?_⟩;unfold ct;by_cases E:c≤j;·rw[bM E,bM (show e.tag≤(j:Int) by omega)];rfl
    ·rw[bQ E,bQ (show¬e.tag≤(j:Int) by omega)];rfl
   ·rename_i z I;refine⟨by omega,by omega,fun j s t=>?_⟩;rw[bM (by omega)];have:f=2∨f=4:=(by omega);rcases this with rfl|rfl<;>rfl
 obtain⟨s,t,D⟩:=N
 refine⟨s,t,?_⟩
 rw[show top-m=(c-m)+(top-c) by omega,xy,show m+(c-m)=c by omega]
 congr 1
 ·refine pe _ (fun j a b=>?_);unfold kI eD;rw[D j a (by omega),bQ (by omega),ag (by simp)]
 ·refine pe _ (fun j a b=>?_);unfold kI;rw[D j (by omega) (by omega),bM (by omega),ai rfl]
theorem qy {lo hi:Nat→Int}{g:Int→Bool}{b:Nat}:∀(d m k:Nat),m+d=b→d≤k→fQ g b→wX lo hi g k m 0=aF (eD lo hi) m d*wX lo hi g (k-d) b 0:=by
 intro d;induction d with
 |zero=>intro m k hm _ _;rw[←hm];show _=1*_;rw[Int.one_mul];rfl
 |succ d D=>
  intro m k hm u t;obtain⟨s,rfl⟩:∃s,k=s+1:=⟨k-1,by omega⟩;have z:fQ g (m+1):=fun x E u=>t x E (fun j E=>u j (by omega));rw[qw z (fun _=>rfl),D (m+1) s (by omega) (by omega) t,jP,Int.mul_assoc,show s+1-(d+1)=s-d by omega];rfl
theorem m0 {lo hi:Nat→Int}{M:St}(h:M.wf){f:Int}{e:Edge}{r:Rec}{s b:Nat}(I:look M.cs e.to=some r)(D:r.ad=f)(U:f≠3)(Q:(s:Int)=r.top)(z:(b:Int)=r.J) :
  wE lo hi M f e (s:Int)=aF (eD lo hi) s (b-s)*(lo b*wE lo hi M f r.lo ((b+1:Nat):Int)+hi b*wE lo hi M f r.hi ((b+1:Nat):Int)):=by
 have g:=h.b4 I
 have g1:=g.tb
 have U:=g.bn
 have T:aW M f ((b+1:Nat):Int) r.lo:=by push_cast;rw[z,←D];exact aW.of g.lo
 have w1:aW M f ((b+1:Nat):Int) r.hi:=by push_cast;rw[z,←D];exact aW.of g.hi
 have hs:∀x,tv M f x (s:Int) e=tv M f x ((b+1:Nat):Int) (if aO x (b:Int)then r.hi else r.lo):=fun x=>by
  have O:dU x r=aO x r.J:=by
   unfold dU;rw[ag (by omega)]
  rw[iw h (by omega) I D (by omega) Q.symm];unfold bL;rw[O];push_cast;rw[z]
 have J:=jU h T
 have E:=jU h w1
 have N:fQ (fun x=>tv M f x (s:Int) e) b:=fun x u t=>by
  show tv M f x (s:Int) e=tv M f u (s:Int) e;rw[hs x,hs u,t b (Int.le_refl _)];split;·exact E x u (fun j z=>t j (by push_cast at z;omega))
  ·exact J x u (fun j z=>t j (by push_cast at z;omega))
 unfold wE
 rw[bG,bG,qy (b-s) s _ (by omega) (by omega) N]
 congr 1
 rw[show(M.n-(s:Int)).toNat-(b-s)=(M.n-((b+1:Nat):Int)).toNat+1 by push_cast;omega]
 refine kZ E (fun x t=>?_) (fun x t=>?_)
 ·rw[hs x,t,ag (by simp)]
 ·rw[hs x,t,ai rfl]
theorem Aj {lo hi:Nat→Int}{g0 g1:Int→Bool}{b:Nat}(h0:fQ g0 b)(u:fQ g1 b):∀(d m k:Nat),m+d=b→d≤k →
  wX lo hi (fun x=>if dM x (m:Int) d then g0 x else g1 x) k m 0=aF lo m d*wX lo hi g0 (k-d) b 0+(aF (eD lo hi) m d-aF lo m d)*wX lo hi g1 (k-d) b 0:=by
 intro d
 induction d with
 |zero=>
  intro m k hm _;subst hm;show wX lo hi g0 k m 0=1*wX lo hi g0 k m 0+(1-1)*_;rw[Int.one_mul,Int.sub_self,Int.zero_mul,Int.add_zero]
 |succ d E=>
  intro m k hm z;obtain⟨s,rfl⟩:∃s,k=s+1:=⟨k-1,by omega⟩;have up:∀{g:Int→Bool},fQ g b→fQ g (m+1):=fun D x I z=>D x I (fun j D=>z j (by omega))
  rw[kZ (g0:=fun x=>if dM x ((m+1:Nat):Int) d then g0 x else g1 x) (g1:=g1) (up u) (fun x t=>?_) (fun x t=>?_),E (m+1) s (by omega) (by omega),jP,jP,show s+1-(d+1)=s-d by omega,
   qy (g:=g1) d (m+1) s (by omega) (by omega) u]
  ·show _=lo m*_*_+((lo m+hi m)*_-lo m*_)*_;generalize aF lo (m+1) d=A;generalize aF (eD lo hi) (m+1) d=C;generalize wX lo hi g0 (s-d) b 0=u;generalize wX lo hi g1 (s-d) b 0=s;simp only[Int.mul_add,Int.add_mul,Int.sub_mul,Int.mul_sub,Int.mul_assoc];omega
  ·show(if(!aO x (m:Int)&&dM x ((m:Int)+1) d)then g0 x else g1 x)=_;rw[t];push_cast;rfl
  ·show(if(!aO x (m:Int)&&dM x ((m:Int)+1) d)then g0 x else g1 x)=_;rw[t];rfl
theorem mZ {lo hi:Nat→Int}{M:St}(h:M.wf){e:Edge}{r:Rec}{s b:Nat}(z:look M.cs e.to=some r)(t:r.ad=3)(D:(s:Int)=r.top)(u:(b:Int)=r.J) :
  wE lo hi M 3 e (s:Int)=aF lo s (b+1-s)*wE lo hi M 3 r.lo ((b+1:Nat):Int)+(aF (eD lo hi) s (b+1-s)-aF lo s (b+1-s))*wE lo hi M 3 r.hi ((b+1:Nat):Int):=by
 have g:=h.b4 z
 have g1:=g.tb
 have I:=g.bn
 have E:aW M 3 ((b+1:Nat):Int) r.lo:=by push_cast;rw[u,←t];exact aW.of g.lo
 have w1:aW M 3 ((b+1:Nat):Int) r.hi:=by push_cast;rw[u,←t];exact aW.of g.hi
 have hs:(fun x=>tv M 3 x (s:Int) e)=(fun x=>if dM x (s:Int) (b+1-s)then tv M 3 x ((b+1:Nat):Int) r.lo else tv M 3 x ((b+1:Nat):Int) r.hi):=by
  funext x
  rw[iw h (by omega) z t (by omega) D.symm];unfold bL dU;rw[ai t,←D,←u,show((b:Int)+1-(s:Int)).toNat=b+1-s by omega];push_cast;cases dM x (s:Int) (b+1-s)<;>rfl
 unfold wE
 rw[bG,bG,hs,Aj (jU h E) (jU h w1) (b+1-s) s _ (by omega) (by omega),
  show(M.n-(s:Int)).toNat-(b+1-s)=(M.n-((b+1:Nat):Int)).toNat by push_cast;omega]
def ey (lo hi:Nat→Int)(m n y:Nat):Nat→Int
 |0=>1
 |k+1=>ey lo hi m n y k*(if y / 2 ^ (n-1-k)%2=1 then hi (m+k)else lo (m+k))
def dg (lo hi:Nat→Int)(m n:Nat)(ts:List Bool):Nat→Int
 |0=>0
 |y+1=>dg lo hi m n ts y+(if ts[y]?=some true then ey lo hi m n y n else 0)
theorem oM (y n j:Nat)(h:j<n):y%2 ^ n / 2 ^ j%2=y / 2 ^ j%2:=by
 obtain⟨d,rfl⟩:∃d,n=j+(d+1):=⟨n-j-1,by omega⟩;rw[Nat.pow_add,Nat.mod_mul_right_div_self,dA,Nat.mod_mul_left_mod]
theorem ly (lo hi:Nat→Int)(m n y:Nat):∀k,k≤n→ey lo hi m (n+1) y (k+1)=(if y / 2 ^ n%2=1 then hi m else lo m)*ey lo hi (m+1) n (y%2 ^ n) k:=by
 intro k;induction k with
 |zero=>intro _;show 1*(if y / 2 ^ (n+1-1-0)%2=1 then hi (m+0)else lo (m+0))=_*1;rw[Int.one_mul,Int.mul_one];rfl
 |succ k s=>
  intro t;show ey lo hi m (n+1) y (k+1)*(if y / 2 ^ (n+1-1-(k+1))%2=1 then hi (m+(k+1))else lo (m+(k+1)))=_*(ey lo hi (m+1) n (y%2 ^ n) k*(if y%2 ^ n / 2 ^ (n-1-k)%2=1 then hi (m+1+k)else lo (m+1+k)));rw[s (by omega),oM y n (n-1-k) (by omega),show n+1-1-(k+1)=n-1-k by omega,show m+(k+1)=m+1+k by omega,Int.mul_assoc]
theorem zj (lo hi:Nat→Int)(m n:Nat)(s t:List Bool)(h0:s.length=2 ^ n):∀y,y≤2 ^ n→dg lo hi m (n+1) (s++t) y=lo m*dg lo hi (m+1) n s y:=by
 intro y;induction y with
 |zero=>intro _;show(0:Int)=_*0;rw[Int.mul_zero]
 |succ y D=>
  intro E;show dg lo hi m (n+1) (s++t) y+(if(s++t)[y]?=some true then ey lo hi m (n+1) y (n+1)else 0)=lo m*(dg lo hi (m+1) n s y+(if s[y]?=some true then ey lo hi (m+1) n y n else 0));have u:y<2 ^ n:=by omega
  have z:(if y / 2 ^ n%2=1 then hi m else lo m)=lo m:=by rw[Nat.div_eq_of_lt u];rfl
  rw[D (by omega),j7 (by omega),ly lo hi m n y n (aI _),fC u,z,Int.mul_add];split;·rfl
  ·rw[Int.mul_zero]
theorem zi (lo hi:Nat→Int)(m n:Nat)(s t:List Bool)(h0:s.length=2 ^ n):∀y,y≤2 ^ n→dg lo hi m (n+1) (s++t) (2 ^ n+y)=lo m*dg lo hi (m+1) n s (2 ^ n)+hi m*dg lo hi (m+1) n t y:=by
 intro y;induction y with
 |zero=>
  intro _;show dg lo hi m (n+1) (s++t) (2 ^ n)=_+hi m*0;rw[zj lo hi m n s t h0 _ (aI _),Int.mul_zero,Int.add_zero]
 |succ y D=>
  intro E;show dg lo hi m (n+1) (s++t) (2 ^ n+y)+(if(s++t)[2 ^ n+y]?=some true then ey lo hi m (n+1) (2 ^ n+y) (n+1)else 0)=lo m*dg lo hi (m+1) n s (2 ^ n)+hi m*(dg lo hi (m+1) n t y+(if t[y]?=some true then ey lo hi (m+1) n y n else 0));have s:0<2 ^ n:=Nat.two_pow_pos n;have u:y<2 ^ n:=by omega
  have z:(if(2 ^ n+y) / 2 ^ n%2=1 then hi m else lo m)=hi m:=by rw[Nat.add_div_left _ s,Nat.div_eq_of_lt u];rfl
  rw[D (by omega),j8 (by omega),h0,show 2 ^ n+y-2 ^ n=y by omega,ly lo hi m n _ n (aI _),z,Nat.add_mod_left,fC u,Int.mul_add,Int.add_assoc];split;·rfl
  ·rw[Int.mul_zero]
theorem zk (lo hi:Nat→Int)(g:Int→Bool):∀(n m:Nat) (x:Int),dg lo hi m n (dH g n m x) (2 ^ n)=wX lo hi g n m x:=by
 intro n;induction n with
 |zero=>
  intro m x;show 0+(if([g x]:List Bool)[0]?=some true then(1:Int)else 0)=if g x then 1 else 0;cases g x<;>rfl
 |succ n s=>
  intro m x;show dg lo hi m (n+1) (dH g n (m+1) x++dH g n (m+1) (x+2 ^ m)) (2 ^ (n+1))=lo m*wX lo hi g n (m+1) x+hi m*wX lo hi g n (m+1) (x+2 ^ m);rw[show 2 ^ (n+1)=2 ^ n+2 ^ n by rw[dA];omega,zi lo hi m n _ _ (kP _ _ _ _) _ (aI _),s,s]
theorem Ah (lo hi:Nat→Int)(M:St)(s:0≤M.n)(f:Int)(e:Edge):dg lo hi 0 M.n.toNat (bg M f e 0) (2 ^ M.n.toNat)=wE lo hi M f e 0:=by
 unfold bg wE;rw[Int.sub_zero];exact zk lo hi _ _ _ _
theorem pd {h:Nat→Int}(h0:∀j,0≤h j)(m:Nat):∀d,0≤aF h m d:=by
 intro d;induction d with
 |zero=>show(0:Int)≤1;decide
 |succ d s=>exact Int.mul_nonneg s (h0 _)
theorem mz {h h':Nat→Int}(h0:∀j,0≤h j)(t:∀j,h j≤h' j)(m:Nat):∀d,aF h m d≤aF h' m d:=by
 intro d;induction d with
 |zero=>exact Int.le_refl _
 |succ d s=>
  show aF h m d*h (m+d)≤aF h' m d*h' (m+d);exact Int.mul_le_mul s (t _) (h0 _) (Int.le_trans (pd h0 m d) s)
theorem xz (c:Int)(m:Nat):∀d,aF (fun _=>c) m d=c ^ d:=by
 intro d;induction d with
 |zero=>rw[Int.pow_zero];rfl
 |succ d s=>rw[Int.pow_succ,←s];rfl
theorem Al {lo hi:Nat→Int}(h0:∀j,0≤lo j)(t:∀j,0≤hi j)(g:Int→Bool):∀(k m:Nat) (x:Int),0≤wX lo hi g k m x:=by
 intro k;induction k with
 |zero=>intro m x;show 0≤(if g x then(1:Int)else 0);split<;>decide
 |succ k s=>intro m x;exact Int.add_nonneg (Int.mul_nonneg (h0 m) (s _ _)) (Int.mul_nonneg (t m) (s _ _))
theorem Ak {lo hi:Nat→Int}(h0:∀j,0≤lo j)(t:∀j,0≤hi j)(g:Int→Bool):∀(k m:Nat) (x:Int),wX lo hi g k m x≤aF (eD lo hi) m k:=by
 intro k;induction k with
 |zero=>intro m x;show(if g x then(1:Int)else 0)≤1;split<;>decide
 |succ k s=>
  intro m x;rw[jP];show lo m*_+hi m*_≤(lo m+hi m)*_;rw[Int.add_mul];exact Int.add_le_add (Int.mul_le_mul_of_nonneg_left (s _ _) (h0 m)) (Int.mul_le_mul_of_nonneg_left (s _ _) (t m))
theorem jt {lo hi:Nat→Int}(h0:∀j,0≤lo j)(s:∀j,0≤hi j)(M:St)(f:Int)(e:Edge)(l:Int):0≤wE lo hi M f e l:=Al h0 s _ _ _ _
theorem Ae {lo hi:Nat→Int}(h0:∀j,0≤lo j)(s:∀j,0≤hi j)(M:St)(f:Int)(e:Edge)(l:Int):wE lo hi M f e l≤aF (eD lo hi) l.toNat (M.n-l).toNat:=Ak h0 s _ _ _ _
def dc:Nat→Nat→Nat
 |0,_=>0
 |k+1,y=>dc k y+y / 2 ^ k%2
theorem mv:∀(k y:Nat),dc k y≤k:=by
 intro k;induction k with
 |zero=>intro y;exact aI _
 |succ k s=>
  intro y;have:=s y;show dc k y+y / 2 ^ k%2≤k+1;omega
theorem wN (n:Nat):∀(k y:Nat),k≤n→dc k (y%2 ^ n)=dc k y:=by
 intro k;induction k with
 |zero=>intro y _;rfl
 |succ k s=>
  intro y t;show dc k (y%2 ^ n)+y%2 ^ n / 2 ^ k%2=dc k y+y / 2 ^ k%2;rw[s y (by omega),oM y n k (by omega)]
theorem rm (K:Int):∀(n m y:Nat),ey (fun _=>1) (fun _=>K) m n y n=K ^ (dc n y):=by
 intro n;induction n with
 |zero=>intro m y;show(1:Int)=K ^ 0;rw[Int.pow_zero]
 |succ n s=>
  intro m y;rw[ly _ _ m n y n (aI _),s,wN n n y (aI _)];show _=K ^ (dc n y+y / 2 ^ n%2);rcases Nat.mod_two_eq_zero_or_one (y / 2 ^ n)with h|h;·rw[h,ag (by decide),Int.one_mul,gH]
  ·rw[h,ai rfl,Int.pow_succ,Int.mul_comm]
def cP (n:Nat)(ts:List Bool):Nat→List Int
 |0=>List.replicate (n+1) 0
 |y+1=>if ts[y]?=some true then(cP n ts y).set (dc n y) ((cP n ts y).getD (dc n y) 0+1)else cP n ts y
theorem jn (n:Nat)(ts:List Bool):∀y,(cP n ts y).length=n+1:=by
 intro y;induction y with
 |zero=>exact nh
 |succ y s=>
  show(if _ then _ else _:List Int).length=_;split;·rw[de,s]
  ·exact s
theorem oZ (n:Nat)(ts:List Bool):∀y,∀x∈cP n ts y,0≤x∧x≤(y:Int):=by
 intro y;induction y with
 |zero=>intro x s;rw[List.eq_of_mem_replicate s];exact⟨Int.le_refl _,Int.le_refl _⟩
 |succ y t=>
  intro x s;have key:∀x∈cP n ts y,0≤x∧x≤((y+1:Nat):Int):=fun z u=>by have:=t z u;push_cast;omega
  change x∈(if _ then _ else _:List Int)at s;split at s
  ·rcases List.mem_or_eq_of_mem_set s with h|h;·exact key x h
   ·rw[h];have u:dc n y<(cP n ts y).length:=(by rw[jn];have:=mv n y;omega);have:=t ((cP n ts y).getD (dc n y) 0) (by rw[fU,aQ u];exact List.getElem_mem _);push_cast;omega
  ·exact key x s
theorem wL (K n:Nat)(ts:List Bool):∀y,az K (cP n ts y)=dg (fun _=>1) (fun _=>(K:Int)) 0 n ts y:=by
 intro y;induction y with
 |zero=>exact mV K (n+1)
 |succ y s=>
  show az K (if _ then _ else _:List Int)=dg (fun _=>1) (fun _=>(K:Int)) 0 n ts y+(if ts[y]?=some true then ey (fun _=>1) (fun _=>(K:Int)) 0 n y n else 0);split
  ·have t:dc n y<(cP n ts y).length:=(by rw[jn];have:=mv n y;omega);have he:=aQ t;rw[mU K he,s,rm,fU,he];congr 1
   show(K:Int) ^ _*((cP n ts y)[dc n y]+1-(cP n ts y)[dc n y])=_;rw[show(cP n ts y)[dc n y]+1-(cP n ts y)[dc n y]=1 by omega,Int.mul_one]
  ·rw[s,Int.add_zero]
def bU (ts:List Bool):Nat→Nat
 |0=>0
 |y+1=>bU ts y+(if ts[y]?=some true then 1 else 0)
theorem rl:∀(n m y k:Nat),ey (fun _=>1) (fun _=>1) m n y k=1:=by
 intro n m y k;induction k with
 |zero=>rfl
 |succ k s=>show ey _ _ m n y k*(if _ then 1 else 1)=1;rw[s,ite_self];rfl
theorem sH (n:Nat)(ts:List Bool):∀y,(bU ts y:Int)=dg (fun _=>1) (fun _=>1) 0 n ts y:=by
 intro y;induction y with
 |zero=>rfl
 |succ y s=>
  show((bU ts y+(if ts[y]?=some true then 1 else 0):Nat):Int)=dg _ _ 0 n ts y+(if ts[y]?=some true then ey _ _ 0 n y n else 0);rw[rl,←s];split<;>push_cast<;>rfl
theorem iY (ts:List Bool):∀y,bU ts y≤y:=by
 intro y;induction y with
 |zero=>exact aI _
 |succ y s=>
  show bU ts y+(if _ then 1 else 0)≤y+1;split<;>omega
end Go.Proofs.YtafkamlhimkbmaaGreat
