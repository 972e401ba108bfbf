/-
  Plainly: what an edge means, level by level; View tells the two halves of what it means.
-/
import Derived.Test.YtafkamlhimkbmaaGreatPSoundP
import Derived.Test.YtafkamlhimkbmaaGreatPSwapA
import Derived.Maps.Views
namespace Go.Proofs.YtafkamlhimkbmaaGreat
set_option maxRecDepth 1000000
set_option maxHeartbeats 8000000
set_option linter.unusedSimpArgs false
set_option linter.unusedVariables false

def a9 (M:St)(f l:Int)(e:Edge):Prop:=l≤M.n∧(e.to<2∨∃r,look M.cs e.to=some r∧r.ad=f∧l≤r.I)

theorem a9.of {M:St}{f l:Int}{e:Edge}(h:M.leads f e l=true):a9 M f l e:=by
 obtain⟨j,q⟩:=aY.1 h;obtain⟨t,z,A,E,I,s,J,K⟩:=bm.1 j;exact⟨s,q.imp id (fun⟨r,a,b,c,_⟩=>⟨r,a,b,c⟩)⟩

theorem a9.next {M:St}{f l:Int}{e:Edge}(q:a9 M f l e)(s:l<M.n):(look M.cs e.to=none∧a9 M f (l+1) e)∨∃r,look M.cs e.to=some r∧r.ad=f∧((l<r.I∧a9 M f (l+1) e)∨l=r.I):=by
 obtain⟨s,j⟩:=q;rcases j with j|⟨r,a,b,c⟩;·exact .inl ⟨dR j,by omega,.inl j⟩
 ·right;refine⟨r,a,b,?_⟩;by_cases j:l<r.I;·exact .inl ⟨j,by omega,.inr ⟨r,a,b,by omega⟩⟩
  ·exact .inr (by omega)

theorem fC {M:St}{f x l:Int}{e:Edge}(q:e.to=0):∀j,hS M f x j l e=false:=by
 intro j;cases j with
 |zero=>show decide (e.to≠0)=false;simp[q]
 |succ j=>show(if e.to=0 then false else _)=false;rw[if_pos q]

theorem fB {M:St}{f x l:Int}{e:Edge}(q:e.to≠0)(s:M.n≤l):∀j,hS M f x j l e=true:=by
 intro j;cases j with
 |zero=>exact decide_eq_true q
 |succ j=>show(if e.to=0 then false else if M.n≤l then true else _)=true;rw[if_neg q,if_pos s]

theorem dL {M:St}{f x l:Int}{e:Edge}{q:Nat}(t:e.to≠0)(z:l<M.n)(j:look M.cs e.to=none∨∃r,look M.cs e.to=some r∧l<r.I):hS M f x (q+1) l e=(if cN f e l&&ao x l then false else hS M f x q (l+1) e):=by
 show(if e.to=0 then false else if M.n≤l then true else match look M.cs e.to with|none=>_|some r=>_)=_;rw[if_neg t,if_neg (by omega)];rcases j with j|⟨r,j,s⟩;·rw[j]
 ·rw[j];simp only[];rw[if_pos s]

theorem gv {M:St}{f x l:Int}{e:Edge}{r:Rec}{j:Nat}(t:l<M.n)(q:look M.cs e.to=some r)(s:¬l<r.I):hS M f x (j+1) l e=hS M f x j (r.J+1) (bI x r):=by
 have j:e.to≠0:=by have:=(bL q).1;omega
 show(if e.to=0 then false else if M.n≤l then true else match look M.cs e.to with|none=>_|some r=>_)=_;rw[if_neg j,if_neg (by omega),q];simp only[];rw[if_neg s]

theorem lG {M:St}(h:M.wf){f x:Int}{e:Edge}{r:Rec}(q:look M.cs e.to=some r)(j:r.ad=f):a9 M f (r.J+1) (bI x r):=by
 have:=Al h q (x:=x);rw[j]at this;exact a9.of this

theorem vQ {M:St}(h:M.wf){f x:Int}:∀(s q:Nat) (l:Int) (e:Edge),a9 M f l e→M.n-l≤(s:Int)→M.n-l≤(q:Int)→hS M f x s l e=hS M f x q l e:=by
 intro s;induction s with
 |zero=>
  intro q l e E t z;by_cases j:e.to=0;·rw[fC j,fC j]
  ·rw[fB j (by omega),fB j (by omega)]
 |succ s A=>
  intro q l e E t z;by_cases j:e.to=0;·rw[fC j,fC j]
  ·by_cases s:M.n≤l;·rw[fB j s,fB j s]
   ·cases q with
    |zero=>omega
    |succ q=>
     push_cast at t z;rcases E.next (by omega)with⟨s,z⟩|⟨r,s,E,⟨t,z⟩|t⟩
     ·rw[dL j (by omega) (.inl s),dL j (by omega) (.inl s),A q (l+1) e z (by omega) (by omega)]
     ·rw[dL j (by omega) (.inr ⟨r,s,t⟩),dL j (by omega) (.inr ⟨r,s,t⟩),A q (l+1) e z (by omega) (by omega)]
     ·have j:=(h.b8 s).tb;rw[gv (by omega) s (by omega),gv (by omega) s (by omega),A q _ _ (lG h s E) (by omega) (by omega)]

theorem ur {x q:Int}:∀(n:Nat) (a:Int),(∀j,a≤j→ao x j=ao q j)→fw x a n=fw q a n:=by
 intro n;induction n with
 |zero=>intro a _;rfl
 |succ n t=>
  intro a s;show(!ao x a&&fw x (a+1) n)=(!ao q a&&fw q (a+1) n);rw[s a (Int.le_refl _),t (a+1) (fun j q=>s j (by omega))]

theorem vO {M:St}(h:M.wf){f x J:Int}:∀(z:Nat) (l:Int) (e:Edge),a9 M f l e→(∀j,l≤j→ao x j=ao J j)→hS M f x z l e=hS M f J z l e:=by
 intro z;induction z with
 |zero=>intro l e _ _;rfl
 |succ z I=>
  intro l e E t;by_cases s:e.to=0;·rw[fC s,fC s]
  ·by_cases z:M.n≤l;·rw[fB s z,fB s z]
   ·rcases E.next (by omega)with⟨q,E⟩|⟨r,q,K,⟨z,E⟩|z⟩
    ·rw[dL s (by omega) (.inl q),dL s (by omega) (.inl q),t l (Int.le_refl _),I (l+1) e E (fun j A=>t j (by omega))]
    ·rw[dL s (by omega) (.inr ⟨r,q,z⟩),dL s (by omega) (.inr ⟨r,q,z⟩),t l (Int.le_refl _),I (l+1) e E (fun j A=>t j (by omega))]
    ·have s:=(h.b8 q).tb
     have L:bI x r=bI J r:=by
      unfold bI eF;rw[ur _ r.I (fun j A=>t j (by omega)),t r.J (by omega)]
     rw[gv (by omega) q (by omega),gv (by omega) q (by omega),L,I _ _ (lG h q K) (fun j A=>t j (by omega))]

theorem vP {M M':St}(h:M.wf)(A:az M M'){f x:Int}:∀(s:Nat) (l:Int) (e:Edge),a9 M f l e→hS M' f x s l e=hS M f x s l e:=by
 intro s;have O:=A.n;induction s with
 |zero=>intro l e _;rfl
 |succ s J=>
  intro l e K;by_cases q:e.to=0;·rw[fC q,fC q]
  ·by_cases s:M.n≤l;·rw[fB q s,fB q (by omega)]
   ·have N:=K;rcases K.next (by omega)with⟨j,I⟩|⟨r,j,L,⟨E,I⟩|E⟩
    ·have t:look M'.cs e.to=none:=by
      rcases N.2 with z|⟨r,z,_⟩;·exact dR z
      ·rw[j]at z;cases z
     rw[dL q (by omega) (.inl j),dL q (by omega) (.inl t),J (l+1) e I]
    ·have t:=A.sub _ _ j;rw[dL q (by omega) (.inr ⟨r,j,E⟩),dL q (by omega) (.inr ⟨r,t,E⟩),J (l+1) e I]
    ·have t:=A.sub _ _ j;rw[gv (by omega) j (by omega),gv (by omega) t (by omega),J _ _ (lG h j L)]

theorem vR {M:St}{f x:Int}:∀(s:Nat) (l:Int) (e j:Edge),a9 M f l e→e.to=j.to→(∀t,l≤t→cN f e t=cN f j t)→hS M f x s l e=hS M f x s l j:=by
 intro s;induction s with
 |zero=>intro l e j _ q _;show decide (e.to≠0)=decide (j.to≠0);rw[q]
 |succ s K=>
  intro l e j E q A;by_cases z:e.to=0;·rw[fC z,fC (q ▸ z)]
  ·have J:j.to≠0:=q ▸ z;by_cases s:M.n≤l;·rw[fB z s,fB J s]
   ·rcases E.next (by omega)with⟨s,I⟩|⟨r,s,L,⟨E,I⟩|E⟩
    ·rw[dL z (by omega) (.inl s),dL J (by omega) (.inl (q ▸ s)),A l (Int.le_refl _),K (l+1) e j I q (fun t L=>A t (by omega))]
    ·rw[dL z (by omega) (.inr ⟨r,s,E⟩),dL J (by omega) (.inr ⟨r,q ▸ s,E⟩),A l (Int.le_refl _),K (l+1) e j I q (fun t L=>A t (by omega))]
    ·rw[gv (by omega) s (by omega),gv (by omega) (q ▸ s) (by omega)]

def tv (M:St)(f x l:Int)(e:Edge):Bool:=hS M f x (M.n-l).toNat l e

theorem dG {M M':St}(h:M.wf)(j:az M M'){f x l:Int}{e:Edge}(q:a9 M f l e):tv M' f x l e=tv M f x l e:=by
 unfold tv;rw[j.n];exact vP h j _ l e q

theorem rP {M:St}(h:M.wf){f x q l:Int}{e:Edge}(t:a9 M f l e)(s:∀j,l≤j→ao x j=ao q j):tv M f x l e=tv M f q l e:=vO h _ l e t s

theorem dx {M:St}{f x l:Int}{e:Edge}(j:e.to=0):tv M f x l e=false:=fC j _

theorem BL {M:St}{f x l:Int}{e:Edge}(q:e.to≠0)(j:M.n≤l):tv M f x l e=true:=fB q j _

theorem iz {M:St}{f x l:Int}{e:Edge}(s:e.to≠0)(q:l<M.n)(j:look M.cs e.to=none∨∃r,look M.cs e.to=some r∧l<r.I):tv M f x l e=(if cN f e l&&ao x l then false else tv M f x (l+1) e):=by
 unfold tv;rw[show(M.n-l).toNat=(M.n-(l+1)).toNat+1 by omega];exact dL s q j

theorem jd {M:St}(h:M.wf){f x l:Int}{e:Edge}{r:Rec}(s:l<M.n)(j:look M.cs e.to=some r)(q:r.ad=f)(t:¬l<r.I)(z:r.I=l):tv M f x l e=tv M f x (r.J+1) (bI x r):=by
 have z:=(h.b8 j).tb;unfold tv;rw[show(M.n-l).toNat=(M.n-(l+1)).toNat+1 by omega,gv s j t];exact vQ h _ _ _ _ (lG h j q) (by omega) (by omega)

theorem rS {M:St}{f x l:Int}{e j:Edge}(z:a9 M f l e)(t:e.to=j.to)(s:∀q,l≤q→cN f e q=cN f j q):tv M f x l e=tv M f x l j:=vR _ l e j z t s

theorem rQ {M:St}{f x:Int}{e:Edge}(j:f=3){b:Int}(t:b≤M.n)(q:e.to<2∨∃r,look M.cs e.to=some r∧b≤r.I):∀(d:Nat) (l:Int),l+(d:Int)=b→tv M f x l e=tv M f x b e:=by
 subst j;intro d;induction d with
 |zero=>intro l j;rw[show l=b by omega]
 |succ d s=>
  intro l j;push_cast at j;by_cases j:e.to=0;·rw[dx j,dx j]
  ·rw[iz j (by omega) (q.imp dR (fun⟨r,a,c⟩=>⟨r,a,by omega⟩)),show cN 3 e l=false from rfl,Bool.false_and,s (l+1) (by omega)];rfl

theorem iL {M:St}(h:M.wf){r:Rec}(q:M.bq r=false)(j:M.a7 r=0) :
  look (M.a6 r).cs (M.bg r)=some r∧az M (M.a6 r)∧(M.a6 r).wf∧2≤M.bg r∧(M.a6 r).len≤M.len+1∧(M.a6 r).room=M.room:=by
 cases hi:M.b4 r with
 |some id=>
  have s:=(jz h.b2 r id).2 hi;obtain⟨a,b,c⟩:=jw h s;rw[b,c];exact⟨s,az.refl M,h,(bL s).1,by omega,rfl⟩
 |none=>
  have t:M.len<M.room:=by
   unfold St.a7 at j;rw[hi]at j;simp only[]at j;rw[if_neg (by rw[q];simp)]at j;split at j;·cases j
   ·omega
  obtain⟨a,b,c,d,e,g⟩:=ju h q t;have j:=mq h q t;exact⟨b,j.ext,j.wf,g,j.len,j.room⟩

theorem kv {M:St}{r:Rec}(s:M.bq r=false)(j:M.a7 r≠0):M.a7 r=6∧M.a6 r=M∧M.room≤M.len:=by
 unfold St.a7 at j ⊢;unfold St.a6;cases hi:M.b4 r with
 |some id=>rw[hi]at j;exact absurd rfl j
 |none=>
  rw[hi]at j;simp only[]at j ⊢;rw[if_neg (by rw[s];simp)]at j ⊢;split at j
  ·rename_i q;rw[if_pos q,if_neg (by rw[s];simp),if_pos q];exact⟨rfl,rfl,q⟩
  ·exact absurd rfl j

structure iI (f:Int)(M:St)(l:Int)(e:Edge)(M':St)(lo hi:Edge):Prop where
 ext:az M M'
 wf:M'.wf
 len:M'.len≤M.len+1
 room:M'.room=M.room
 cq:M'.leads f lo (l+1)=true
 cg:M'.leads f hi (l+1)=true
 cD:∀x,tv M f x l e=tv M' f x (l+1) (if ao x l then hi else lo)

theorem pQ {M:St}{f l l':Int}{e:Edge}(h:M.leads f e l=true)(j:0≤l')(q:l'≤M.n):M.leads f ⟨0,0⟩ l'=true:=by
 obtain⟨t,z⟩:=aY.1 h;obtain⟨z,A,E,I,J,K,L,N⟩:=bm.1 t;exact aY.2 ⟨bm.2 ⟨z,A,E,I,j,q,fun _=>rfl,fun _ s=>absurd rfl s⟩,.inl (by show(0:Int)<2;omega)⟩

theorem rY {f:Int}{M:St}(h:M.wf){l:Int}{e:Edge}(A:M.leads f e l=true)(z:l<M.n)(j:look M.cs e.to=none∨∃r,look M.cs e.to=some r∧l<r.I)(L:¬(f=5∧(e.to=0∨l<e.tag))) :
  iI f M l e M (aI f l e).1 (aI f l e).2.1∧(aI f l e).2.2=0:=by
 have a3:=A
 obtain⟨ad,J⟩:=aY.1 A
 obtain⟨O,S,T,U,a3,a4,a1,a5⟩:=bm.1 ad
 have av:=a9.of A
 have aw:a9 M f (l+1) e:=by
  rcases av.next z with⟨_,q⟩|⟨r,E,_,⟨_,q⟩|q⟩
  ·exact q
  ·exact q
  ·rcases j with j|⟨a2,j,ab⟩;·rw[j]at E;cases E
   ·rw[j]at E;cases E;omega
 have I:e.to<2∨∃r,look M.cs e.to=some r∧r.ad=f∧l+1≤r.I∧e.tag≤r.I:=by
  rcases J with J|⟨r,a,b,c,d⟩;·exact .inl J
  ·rcases j with j|⟨a2,j,ab⟩;·rw[j]at a;cases a
   ·rw[j]at a;cases a;exact .inr ⟨_,j,b,by omega,d⟩
 have K:=pQ A (l':=l+1) (by omega) (by omega)
 have X:f=1∨f=2∨f=3∨f=4∨f=5:=by omega
 have plain:f≠5→M.leads f e (l+1)=true:=fun s=>aY.2 ⟨bm.2 ⟨O,S,T,U,by omega,by omega,a1,fun a=>absurd a s⟩,I⟩
 have free:(f=1∨f=3)→∀x,tv M f x l e=tv M f x (l+1) (if ao x l then e else e):=fun s x=>by
  rw[ite_self];by_cases t:e.to=0;·rw[dx t,dx t]
  ·rw[iz t z j];have:cN f e l=false:=by rcases s with rfl|rfl<;>rfl
   rw[this,Bool.false_and];rfl
 have zero:(f=2∨f=4)→∀x,tv M f x l e=tv M f x (l+1) (if ao x l then⟨0,0⟩else e):=fun s x=>by
  by_cases t:e.to=0
  ·rw[dx t];split;·rw[dx rfl]
   ·rw[dx t]
  ·rw[iz t z j];have:cN f e l=true:=by rcases s with rfl|rfl<;>rfl
   rw[this,Bool.true_and];cases W:ao x l with
   |true=>rw[if_pos rfl,if_pos rfl,dx rfl]
   |false=>rw[if_neg (by simp),if_neg (by simp)]
 unfold aI
 rcases X with rfl|rfl|rfl|rfl|rfl
 ·rw[if_pos (.inl rfl)];exact⟨⟨az.refl _,h,by omega,rfl,plain (by omega),plain (by omega),free (.inl rfl)⟩,rfl⟩
 ·rw[if_neg (by omega),if_neg (by omega)];exact⟨⟨az.refl _,h,by omega,rfl,plain (by omega),K,zero (.inl rfl)⟩,rfl⟩
 ·rw[if_pos (.inr rfl)];exact⟨⟨az.refl _,h,by omega,rfl,plain (by omega),plain (by omega),free (.inr rfl)⟩,rfl⟩
 ·rw[if_neg (by omega),if_neg (by omega)];exact⟨⟨az.refl _,h,by omega,rfl,plain (by omega),K,zero (.inr rfl)⟩,rfl⟩
 ·rw[if_neg (by omega),if_pos rfl];have t:e.to≠0:=fun s=>L ⟨rfl,.inl s⟩;have am:e.tag≤l:=by have:¬l<e.tag:=fun s=>L ⟨rfl,.inr s⟩;omega
  have Z:M.leads 5 ⟨l+1,e.to⟩ (l+1)=true:=by
   refine aY.2 ⟨bm.2 ⟨O,S,T,U,by omega,by omega,fun s=>absurd s (by simp[t]),fun _ _=>⟨Int.le_refl _,by show l+1≤M.n;omega⟩⟩,?_⟩;rcases I with I|⟨r,a,b,c,d⟩;·exact .inl I
   ·exact .inr ⟨r,a,b,c,c⟩
  refine⟨⟨az.refl _,h,by omega,rfl,Z,K,fun x=>?_⟩,rfl⟩;rw[iz t z j];have:cN 5 e l=true:=by unfold cN;rw[decide_eq_true am];rfl
  rw[this,Bool.true_and];cases W:ao x l with
  |true=>rw[if_pos rfl,if_pos rfl,dx rfl]
  |false=>
   rw[if_neg (by simp),if_neg (by simp)];refine rS aw rfl (fun N Y=>?_);unfold cN;rw[decide_eq_true (show e.tag≤N by omega),decide_eq_true (show(⟨l+1,e.to⟩:Edge).tag≤N from Y)]

theorem fL {f:Int}{M:St}(h:M.wf){l:Int}{e:Edge}(L:M.leads f e l=true)(O:l<M.n)(t:bT M (af M f e l)=0) :
  iI f M l e (bQ M (af M f e l)) (bN M (af M f e l)) (bk M f (af M f e l)):=by
 obtain⟨bg,I⟩:=aY.1 L
 obtain⟨a4,a5,br,bs,bx,b0,a6,bt⟩:=bm.1 bg
 have bg:=a9.of L
 unfold af at t ⊢
 rw[if_neg (by omega),if_neg (by rw[L];simp)]at t ⊢
 split at t
 ·rename_i q;rw[if_pos q];obtain⟨rfl,q⟩:=q;show iI 5 M l e M e e
  have ad:M.leads 5 e (l+1)=true:=by
   by_cases E:e.to=0
   ·have aw:e.tag=0:=a6 (.inr E);have:e=⟨0,0⟩:=(by cases e;simp only at E aw;rw[E,aw]);rw[this];exact pQ L (by omega) (by omega)
   ·have J:l<e.tag:=(by rcases q with q|q;exact absurd q E;exact q);have:=bt rfl E;refine aY.2 ⟨bm.2 ⟨a4,a5,br,bs,by omega,by omega,a6,fun _ _=>by omega⟩,?_⟩;rcases I with I|⟨r,a,b,c,d⟩;·exact .inl I
    ·exact .inr ⟨r,a,b,by omega,d⟩
  refine⟨az.refl _,h,by omega,rfl,ad,ad,fun x=>?_⟩;rw[ite_self];by_cases E:e.to=0;·rw[dx E,dx E]
  ·have J:l<e.tag:=by rcases q with q|q;exact absurd q E;exact q
   have A:look M.cs e.to=none∨∃r,look M.cs e.to=some r∧l<r.I:=by
    rcases I with I|⟨r,a,b,c,d⟩;·exact .inl (dR I)
    ·exact .inr ⟨r,a,by omega⟩
   rw[iz E O A];have:cN 5 e l=false:=(by unfold cN;rw[decide_eq_false (show¬e.tag≤l by omega)];rfl);rw[this,Bool.false_and];rfl
 ·rename_i q;rw[if_neg q];cases A:look M.cs e.to with
  |none=>exact(rY h L O (.inl A) q).1
  |some r=>
   rw[A]at t;simp only[]at t ⊢;have g:=h.b8 A;have E:=g.tb;have E:=g.bn
   have z:r.ad=f∧l≤r.I:=by
    rcases I with I|⟨a7,a,b,c,d⟩;·rw[dR I]at A;cases A
    ·rw[A]at a;cases a;exact⟨b,c⟩
   by_cases J:l<r.I
   ·rw[if_pos J];exact(rY h L O (.inr ⟨r,A,J⟩) q).1
   ·rw[if_neg J]at t ⊢;have K:r.I=l:=(by omega);obtain⟨z,_⟩:=z;split at t
    ·rename_i S;rw[if_pos S];obtain⟨Y,q⟩:=S;have Z:M.bq ⟨r.ad,r.I+1,r.J,r.lo,r.hi⟩=false:=lh g h.bw (by omega) (by rw[z];exact Y) q;obtain⟨j,s⟩:∃j:Rec,j=⟨r.ad,r.I+1,r.J,r.lo,r.hi⟩:=⟨_,rfl⟩;rw[←s]at t Z ⊢;change M.a7 j=0 at t;obtain⟨a1,N,a2,q,bn,bp⟩:=iL h Z t;have q:bN M (.inr j)=⟨0,M.bg j⟩:=dW t
     have E:bk M f (.inr j)=if f=4 then⟨0,M.bg j⟩else r.hi:=by
      show(if M.a7 j=0 then(if f=4 then ba M 0 j else j.hi)else⟨0,0⟩:Edge)=_;rw[if_pos t,dW t,s]
     rw[q,E];show iI f M l e (M.a6 j) _ _;have q:=N.n;have bb:f≠5:=by omega
     have a3:(M.a6 j).leads f ⟨0,M.bg j⟩ (l+1)=true:=by
      refine aY.2 ⟨bm.2 ⟨a4,a5,by omega,by omega,by omega,by omega,fun _=>rfl,fun a=>absurd a bb⟩,.inr ⟨j,a1,by rw[s];exact z,by rw[s];show l+1≤r.I+1;omega,by rw[s];show(0:Int)≤r.I+1;omega⟩⟩
     have bq:(M.a6 j).leads f r.hi (l+1)=true:=by
      have:=N.leads g.hi;rw[z]at this;exact kH this (by omega) (by omega)
     have av:∀x,tv (M.a6 j) f x (l+1) ⟨0,M.bg j⟩=tv M f x (r.J+1) (bI x j):=fun x=>by
      have q:j.I=l+1:=(by rw[s];show r.I+1=_;omega);have t:j.J=r.J:=(by rw[s]);rw[jd a2 (by omega) a1 (by rw[s];exact z) (by omega) q,t];refine dG h N ?_;unfold bI;split;·rw[s,←z];exact a9.of g.hi
      ·rw[s,←z];exact a9.of g.lo
     have be:∀x,tv M f x l e=tv M f x (r.J+1) (bI x r):=fun x=>jd h O A z J K;refine⟨N,a2,bn,bp,a3,?_,fun x=>?_⟩
     ·split;·exact a3
      ·exact bq
     ·rw[be x];rcases Y with a8|a'
      ·rw[if_neg (show¬f=4 by omega)]
       have am:eF x r=(ao x l||eF x j):=by
        unfold eF;rw[if_pos (by omega),if_pos (by rw[s];show r.ad=3;omega),s];show(!fw x r.I (r.J+1-r.I).toNat)=(ao x l||!fw x (r.I+1) (r.J+1-(r.I+1)).toNat);rw[show(r.J+1-r.I).toNat=(r.J+1-(r.I+1)).toNat+1 by omega];show(!(!ao x r.I&&fw x (r.I+1) _))=_;rw[K];cases ao x l<;>simp
       cases ab:ao x l with
       |true=>
        rw[if_pos rfl];have:bI x r=r.hi:=(by unfold bI;rw[am,ab];rfl);rw[this,←dG h N (by rw[←z];exact a9.of g.hi)];refine(rQ a8 (by omega) ?_ (r.J-l).toNat (l+1) (by omega)).symm;rcases(aY.1 (N.leads g.hi)).2 with q|⟨a7,a,b,c,_⟩;·exact .inl q
        ·exact .inr ⟨a7,a,c⟩
       |false=>
        rw[if_neg (by simp),av x];have:bI x r=bI x j:=(by unfold bI;rw[am,ab,Bool.false_or,s]);rw[this]
      ·rw[if_pos a',ite_self,av x]
       have:bI x r=bI x j:=by
        have bv:eF x r=ao x r.J:=(by unfold eF;rw[if_neg (show¬r.ad=3 by omega)]);have bw:eF x j=ao x r.J:=(by unfold eF;rw[if_neg (show¬j.ad=3 by rw[s];show¬r.ad=3;omega),s]);unfold bI;rw[bv,bw,s]
       rw[this]
    ·rename_i S;rw[if_neg S];show iI f M l e M r.lo r.hi
     have T:r.J=r.I:=by
      rcases g.chain with U|U;·exact U.symm
      ·unfold eY at U;simp only[Bool.or_eq_true,beq_iff_eq]at U;by_cases j:r.J=r.I;·exact j
       ·exact absurd ⟨by omega,j⟩ S
     have X:=g.lo;have W:=g.hi;rw[z,T,K]at X W;refine⟨az.refl _,h,by omega,rfl,X,W,fun x=>?_⟩;rw[jd h O A z J K,T,K]
     have bi:eF x r=ao x l:=by
      unfold eF;split
      ·rw[T,K,show(l+1-l).toNat=1 by omega];show(!(!ao x l&&true))=_;simp
      ·rw[T,K]
     unfold bI;rw[bi]

theorem lF {f:Int}{M:St}(h:M.wf){l:Int}{e:Edge}(t:M.leads f e l=true)(I:l<M.n)(j:bT M (af M f e l)≠0) :
  bT M (af M f e l)=6∧bQ M (af M f e l)=M∧M.room≤M.len:=by
 obtain⟨A,s⟩:=aY.1 t
 obtain⟨I,J,K,L,N,O,S,T⟩:=bm.1 A
 have z:(aI f l e).2.2=0:=by
  unfold aI;split;·rfl
  ·split<;>rfl
 unfold af at j ⊢
 rw[if_neg (by omega),if_neg (by rw[t];simp)]at j ⊢
 split at j
 ·exact absurd rfl j
 ·rename_i t;rw[if_neg t];cases q:look M.cs e.to with
  |none=>rw[q]at j;exact absurd z j
  |some r=>
   rw[q]at j;simp only[]at j ⊢;have g:=h.b8 q
   have E:r.ad=f∧l≤r.I:=by
    rcases s with s|⟨t,a,b,c,d⟩;·rw[dR s]at q;cases q
    ·rw[q]at a;cases a;exact⟨b,c⟩
   split at j;·exact absurd z j
   ·rename_i q;rw[if_neg q];split at j
    ·rename_i q;rw[if_pos q];exact kv (lh g h.bw (by omega) (by rw[E.1];exact q.1) q.2) j
    ·exact absurd rfl j

def de (g:Int→Bool):Nat→Nat→Int→List Bool
 |0,_,x=>[g x]
 |k+1,m,x=>de g k (m+1) x++de g k (m+1) (x+2 ^ m)

theorem rK (g:Int→Bool):∀(k m:Nat) (x:Int),(de g k m x).length=2 ^ k:=by
 intro k;induction k with
 |zero=>intro m x;rfl
 |succ k j=>
  intro m x;show(de g k (m+1) x++de g k (m+1) (x+2 ^ m)).length=_;rw[List.length_append,j,j,Nat.pow_succ];omega

theorem n8 {g s:Int→Bool}:∀(k m:Nat) (x q:Int),(∀j:Nat,g (x+2 ^ m*(j:Int))=s (q+2 ^ m*(j:Int)))→de g k m x=de s k m q:=by
 intro k;induction k with
 |zero=>
  intro m x q h;have:=h 0;simp at this;show[g x]=[s q];rw[this]
 |succ k t=>
  intro m x q h;show de g k (m+1) x++de g k (m+1) (x+2 ^ m)=de s k (m+1) q++de s k (m+1) (q+2 ^ m);rw[t (m+1) x q (fun j=>?_),t (m+1) (x+2 ^ m) (q+2 ^ m) (fun j=>?_)]
  ·have:=h (1+2*j);push_cast at this
   rw[show x+2 ^ m+2 ^ (m+1)*(j:Int)=x+2 ^ m*(1+2*(j:Int)) by rw[Int.pow_succ];rw[Int.mul_add,Int.mul_one,←Int.mul_assoc];omega,
    show q+2 ^ m+2 ^ (m+1)*(j:Int)=q+2 ^ m*(1+2*(j:Int)) by rw[Int.pow_succ];rw[Int.mul_add,Int.mul_one,←Int.mul_assoc];omega]
   exact this
  ·have:=h (2*j);push_cast at this
   rw[show x+2 ^ (m+1)*(j:Int)=x+2 ^ m*(2*(j:Int)) by rw[Int.pow_succ,←Int.mul_assoc],
    show q+2 ^ (m+1)*(j:Int)=q+2 ^ m*(2*(j:Int)) by rw[Int.pow_succ,←Int.mul_assoc]]
   exact this

theorem A7 {g:Int→Bool}(h:∀x,g x=false):∀(k m:Nat) (x:Int),de g k m x=List.replicate (2 ^ k) false:=by
 intro k;induction k with
 |zero=>intro m x;show[g x]=_;rw[h x];rfl
 |succ k j=>
  intro m x;show de g k (m+1) x++de g k (m+1) (x+2 ^ m)=_;rw[j,j,List.replicate_append_replicate,Nat.pow_succ];congr 1
  omega

def cF (M:St)(f:Int)(e:Edge)(l:Int):List Bool:=de (fun x=>tv M f x l e) (M.n-l).toNat l.toNat 0

theorem nZ {M:St}{f:Int}{e:Edge}{l:Int}:(cF M f e l).length=2 ^ (M.n-l).toNat:=rK _ _ _ _

theorem rH {M M':St}(h:M.wf)(j:az M M'){f l:Int}{e:Edge}(q:a9 M f l e):cF M' f e l=cF M f e l:=by
 unfold cF;rw[j.n];exact n8 _ _ _ _ (fun s=>dG h j q)

theorem n7 {M:St}{f l:Int}{e:Edge}(j:e.to=0):cF M f e l=List.replicate (2 ^ (M.n-l).toNat) false:=A7 (fun _=>dx j) _ _ _

theorem rG {M:St}{f l:Int}{e:Edge}(j:e.to≠0)(q:M.n=l):cF M f e l=[true]:=by
 unfold cF;rw[show(M.n-l).toNat=0 by omega];show[tv M f 0 l e]=_;rw[BL j (by omega)]

theorem tF (m j:Nat):ao (0+2 ^ (m+1)*(j:Int)) (m:Int)=false:=by
 unfold ao;rw[Int.toNat_natCast,Int.zero_add,Int.pow_succ,show(2:Int) ^ m*2*(j:Int)=2 ^ m*(2*(j:Int)) by rw[Int.mul_assoc],Int.mul_ediv_cancel_left _ (Int.ne_of_gt (Int.pow_pos (by decide)))];rw[decide_eq_false];omega

theorem tE (m j:Nat):ao (0+2 ^ m+2 ^ (m+1)*(j:Int)) (m:Int)=true:=by
 unfold ao;rw[Int.toNat_natCast,Int.zero_add,Int.pow_succ,show(2:Int) ^ m+2 ^ m*2*(j:Int)=2 ^ m*(1+2*(j:Int)) by rw[Int.mul_add,Int.mul_one,←Int.mul_assoc],Int.mul_ediv_cancel_left _ (Int.ne_of_gt (Int.pow_pos (by decide)))];rw[decide_eq_true];omega

theorem tC (m j:Nat)(q:Int)(A:(m:Int)+1≤q):ao (0+2 ^ m+2 ^ (m+1)*(j:Int)) q=ao (0+2 ^ (m+1)*(j:Int)) q:=by
 obtain⟨d,z⟩:∃d:Nat,q.toNat=(m+1)+d:=⟨q.toNat-(m+1),by omega⟩;have q:(0:Int)<2 ^ m:=Int.pow_pos (by decide)
 have s:(0+2 ^ m+2 ^ (m+1)*(j:Int)) / 2 ^ (m+1)=(j:Int):=by
  rw[Int.add_mul_ediv_left _ _ (Int.ne_of_gt (Int.pow_pos (by decide)))];rw[Int.ediv_eq_zero_of_lt (by omega) (by rw[Int.pow_succ];omega)];omega
 have t:(0+2 ^ (m+1)*(j:Int)) / 2 ^ (m+1)=(j:Int):=by
  rw[Int.zero_add,Int.mul_ediv_cancel_left _ (Int.ne_of_gt (Int.pow_pos (by decide)))]
 have key:∀a:Int,a / 2 ^ (m+1+d)=a / 2 ^ (m+1) / 2 ^ d:=fun a=>by
  rw[Int.ediv_ediv_of_nonneg (Int.le_of_lt (Int.pow_pos (by decide))),←Int.pow_add]
 unfold ao;rw[z,key,key,s,t]

theorem rL {f:Int}{M M':St}{l:Int}{e lo hi:Edge}(j:iI f M l e M' lo hi)(s:0≤l)(t:l<M.n):cF M f e l=cF M' f lo (l+1)++cF M' f hi (l+1):=by
 have s:=j.ext.n;obtain⟨m,rfl⟩:∃m:Nat,l=(m:Int):=⟨l.toNat,by omega⟩;unfold cF;rw[show(M.n-(m:Int)).toNat=(M'.n-((m:Int)+1)).toNat+1 by omega,Int.toNat_natCast,show((m:Int)+1).toNat=m+1 by omega];show de _ _ (m+1) 0++de _ _ (m+1) (0+2 ^ m)=_;congr 1
 ·refine n8 _ _ _ _ (fun q=>?_);have:=j.cD (0+2 ^ (m+1)*(q:Int));rw[tF,if_neg (by simp)]at this;exact this
 ·refine n8 _ _ _ _ (fun q=>?_);have:=j.cD (0+2 ^ m+2 ^ (m+1)*(q:Int));rw[tE,if_pos rfl]at this;refine this.trans ?_;exact rP j.wf (a9.of j.cg) (fun s j=>tC m q s j)

theorem cR.hE {f:Int}{M:St}(h:M.wf){l:Int}{lo hi e:Edge}(A:cR f M l lo hi e):bT M (af M f e l)=0∧bQ M (af M f e l)=M∧bN M (af M f e l)=lo∧bk M f (af M f e l)=hi:=by
 rcases A.ek with q|⟨j,q,E,t,z⟩
 ·rw[q];exact⟨rfl,rfl,rfl,rfl⟩
 ·rw[q];obtain⟨a,b,c⟩:=jw h E
  have s:ba M 0 j=lo:=by
   rw[dW a,b];cases lo;simp only at t;rw[t]
  refine⟨a,c,s,?_⟩;show(if M.a7 j=0 then(if f=4 then ba M 0 j else j.hi)else⟨0,0⟩:Edge)=hi;rw[if_pos a,z,s]

theorem aC.cD {f:Int}{M:St}(t:M.wf)(I:1≤f∧f≤5):∀(k:Nat) (ts:List Bool) (l:Int) (e:Edge),aC f M k ts l e→l+(k:Int)=M.n→0≤l→cF M f e l=ts:=by
 intro k;induction k with
 |zero=>
  intro ts l e h q j;obtain⟨b,rfl,rfl⟩:=h;cases b with
  |false=>
   rw[n7 (show(cc f false l).to=0 from rfl),show(M.n-l).toNat=0 by omega];rfl
  |true=>exact rG (by unfold cc;rw[if_pos rfl];split<;>(show(1:Int)≠0;decide)) (by omega)
 |succ k z=>
  intro ts l e h q j;obtain⟨I,lo,hi,A,E,s⟩:=h;push_cast at q;obtain⟨I,J,K,L⟩:=s.hE t;have q:=fL t s.leads (by omega) I;rw[J,K,L]at q;rw[rL q j (by omega),z _ _ _ A (by omega) (by omega),z _ _ _ E (by omega) (by omega),List.take_append_drop]

def St.b0 (M:St):St:={ M with room:=1048576 }

theorem St.wf.b0 {M:St}(h:M.wf):M.b0.wf:=⟨h.n0,h.bw,h.gone,h.gj,h.c6,h.b2,h.g5,by show(0:Int)≤1048576;omega,by show(1048576:Int)≤1048576;omega,by have:=h.cx;have:=h.gp;show M.len≤1048576;omega⟩

theorem az.b0 (M:St):az M M.b0:=⟨rfl,fun _ _ h=>h⟩

theorem az.hf (M:St):az M.b0 M:=⟨rfl,fun _ _ h=>h⟩

theorem zA {M M':St}(j:az M M')(h:M.wf){f:Int}{e:Edge}{l:Int}(q:M.leads f e l=true)(z:bf M' f e l=true):bf M f e l=true:=by
 refine cC.2 ⟨q,fun x t=>?_⟩;have s:=(cC.1 z).2 x (zr j t);cases q:look M.cs x with
 |none=>exact absurd q t.some
 |some r=>
  rw[j.sub _ _ q]at s;show aV M f r=false;rw[←jX j h q];exact s

theorem lj {M M':St}(j:az M M')(h:M.wf){f:Int}{e:Edge}{l:Int}(s:M.leads f e l=true)(t:bH M' f e l):bH M f e l:=fun q=>zA j h s (t q)

def fP (M:St)(f a:Int):Prop:=f=3∨f=4∨f=5→eN M f a

theorem lk {M:St}{f:Int}{e:Edge}{l:Int}(q:M.leads f e l=true):bH M f e l↔fP M f e.to:=
 ⟨fun h j=>(cC.1 (h j)).2,fun h j=>cC.2 ⟨q,h j⟩⟩

theorem jW {f:Int}{M M':St}(h:M.wf){l:Int}{e lo hi:Edge}(am:M.leads f e l=true)(cf:0≤l)(b5:l<M.n)(X:bT M (af M f e l)=0)(b6:bH M f e l)
  (L:M'=bQ M (af M f e l)) (O:lo=bN M (af M f e l)) (N:hi=bk M f (af M f e l)) :
  cR f M' l lo hi e∧bH M' f lo (l+1)∧bH M' f hi (l+1):=by
 have z:=fL h am b5 X
 rw[←L,←O,←N]at z
 obtain⟨b8,a7⟩:=aY.1 am
 obtain⟨b5,cf,cg,ch,ci,cj,cd,b4⟩:=bm.1 b8
 have av:=(lk am).1 b6
 have br:f=1∨f=2∨f=3∨f=4∨f=5:=by omega
 have b5:=z.ext.n
 have ca:=rX z.ext am
 have I:¬(l<0∨M'.n≤l):=by omega
 have E:¬(M'.leads f lo (l+1)=false∨M'.leads f hi (l+1)=false):=by rw[z.cq,z.cg];simp
 have b7:=z.ext.leads am
 suffices b9:(ak f M' l lo hi=.inl (e,0)∨∃r,ak f M' l lo hi=.inr r∧look M'.cs e.to=some r∧e.tag=df f r) ∧
   (af M f e l=.inl (lo,hi,0)∨∃q,af M f e l=.inr q∧look M'.cs lo.to=some q∧lo.tag=0∧hi=(if f=4 then lo else q.hi))∧fP M' f lo.to∧fP M' f hi.to by
  obtain⟨b5,b6,b8,cf⟩:=b9
  exact⟨⟨b5,by rw[ca];exact b6,b7,z.cq,z.cg⟩,(lk z.cq).2 b8,(lk z.cg).2 cf⟩
 have cb:fP M' f 0:=fun _=>mY (dR (by decide))
 -- no node at the level
 have bx:∀(_:look M.cs e.to=none∨∃r,look M.cs e.to=some r∧l<r.I) (_:¬(f=5∧(e.to=0∨l<e.tag))),af M f e l=.inl (aI f l e) →
   (ak f M' l lo hi=.inl (e,0)∨∃r,ak f M' l lo hi=.inr r∧look M'.cs e.to=some r∧e.tag=df f r) ∧
   (af M f e l=.inl (lo,hi,0)∨∃q,af M f e l=.inr q∧look M'.cs lo.to=some q∧lo.tag=0∧hi=(if f=4 then lo else q.hi))∧fP M' f lo.to∧fP M' f hi.to:=by
  intro t a6 U
  rw[U]at L O N ⊢
  have a5:M'=M:=L
  have Z:lo=(aI f l e).1:=O
  have Y:hi=(aI f l e).2.1:=N
  have b2:lo.to=e.to:=by
   rw[Z];unfold aI;split;·rfl
   ·split<;>rfl
  have bt:fP M' f lo.to:=by rw[b2,a5];exact av
  subst a5
  refine⟨.inl ?_,.inl ?_,bt,?_⟩
  ·rcases br with rfl|rfl|rfl|rfl|rfl
   ·obtain rfl:lo=e:=Z;obtain rfl:hi=lo:=Y;rw[fe];unfold al bY;rw[if_neg I,if_neg E,if_pos rfl]
   ·obtain rfl:lo=e:=Z;obtain rfl:hi=⟨0,0⟩:=Y;rw[ff];unfold al cr;rw[if_neg I,if_neg E,if_pos rfl]
   ·obtain rfl:lo=e:=Z;obtain rfl:hi=lo:=Y;rw[fU];unfold al aW;rw[if_neg I,if_neg E,if_pos rfl]
   ·obtain rfl:lo=e:=Z;obtain rfl:hi=⟨0,0⟩:=Y;rw[fV];unfold al aZ;rw[if_neg I,if_neg E,if_pos rfl]
   ·have a':e.to≠0:=fun j=>a6 ⟨rfl,.inl j⟩
    have b0:e.tag=l:=by
     have:¬l<e.tag:=fun j=>a6 ⟨rfl,.inr j⟩;have:=b4 rfl a';omega
    obtain rfl:lo=⟨l+1,e.to⟩:=Z;obtain rfl:hi=⟨0,0⟩:=Y;rw[fH];unfold bo;rw[if_neg I,if_neg E,if_neg (fun j=>a' (congrArg Edge.to j)),if_pos ⟨rfl,rfl⟩];cases e;simp only at b0;rw[b0]
  ·rw[Z,Y]
   have:(aI f l e).2.2=0:=by
    unfold aI;split;·rfl
    ·split<;>rfl
   rw[←this]
  ·have:hi.to=e.to∨hi.to=0:=by
    rw[Y];unfold aI;split;·exact .inl rfl
    ·split<;>exact .inr rfl
   rcases this with j|j;·rw[j,←b2];exact bt
   ·rw[j];exact cb
 obtain⟨Y,U⟩:∃Y,Y=af M f e l:=⟨_,rfl⟩
 have A:=U
 unfold af at A
 rw[if_neg (by omega),if_neg (by rw[am];simp)]at A
 split at A
 ·rename_i ad;obtain⟨rfl,ad⟩:=ad;rw[←U,A]at L O N ⊢;obtain rfl:M'=M:=L;obtain rfl:lo=e:=O;obtain rfl:hi=lo:=N;refine⟨.inl ?_,.inl rfl,av,av⟩;rw[fH];unfold bo;rw[if_neg I,if_neg E,if_pos rfl]
 ·rename_i ad;cases t:look M.cs e.to with
  |none=>
   rw[t]at A;exact bx (.inl t) ad (U ▸ A)
  |some r=>
   rw[t]at A;simp only[]at A;have g:=h.b8 t;have Y:=g.tb;have Y:=g.bn
   have J:r.ad=f∧l≤r.I∧e.tag≤r.I:=by
    rcases a7 with a7|⟨ce,a,b,c,d⟩;·rw[dR a7]at t;cases t
    ·rw[t]at a;cases a;exact⟨b,c,d⟩
   obtain⟨J,Y,Z⟩:=J;by_cases Y:l<r.I
   ·rw[if_pos Y]at A;exact bx (.inr ⟨r,t,Y⟩) ad (U ▸ A)
   ·rw[if_neg Y]at A;have a1:r.I=l:=(by omega);have bs:=z.ext.sub _ _ t
    have a8:(f=3∨f=4∨f=5)→aV M' f r=false:=fun j=>by
     rw[jX z.ext h t];have:=av j e.to (Reaches.root (by simp) (by rw[t];simp));rw[t]at this;exact this
    have a2:fP M' f r.lo.to∧fP M' f r.hi.to:=by
     refine⟨fun j=>?_,fun j=>?_⟩;·exact jJ z.ext h (jB g.lo) (kU (av j) t).1
     ·exact jJ z.ext h (jB g.hi) (kU (av j) t).2
    have b1:f≠5→e.tag=0:=fun j=>cd (.inl j);split at A
    ·rename_i be;obtain⟨bn,bv⟩:=be;have bp:M.bq ⟨r.ad,r.I+1,r.J,r.lo,r.hi⟩=false:=lh g h.bw (by omega) (by rw[J];exact bn) bv;obtain⟨q,aw⟩:∃q:Rec,q=⟨r.ad,r.I+1,r.J,r.lo,r.hi⟩:=⟨_,rfl⟩;rw[←aw]at A bp;rw[←U,A]at L O N X ⊢;change M.a7 q=0 at X;obtain⟨t,Y,Z,am,av,bt⟩:=iL h bp X;have a5:M'=M.a6 q:=L;have a4:lo=⟨0,M.bg q⟩:=by rw[O];exact dW X
     have K:hi=if f=4 then lo else r.hi:=by
      rw[N];show(if M.a7 q=0 then(if f=4 then ba M 0 q else q.hi)else⟨0,0⟩:Edge)=_;rw[if_pos X,dW X,a4,aw]
     have T:look M'.cs lo.to=some q:=(by rw[a5,a4];exact t);have bg:q.I=l+1:=(by rw[aw];show r.I+1=_;omega);have bi:q.J=r.J:=(by rw[aw]);have bb:q.lo=r.lo:=(by rw[aw]);have a3:q.hi=r.hi:=by rw[aw]
     have bw:fP M' f lo.to:=fun j=>by
      refine qu T ?_ (by rw[bb];exact a2.1 j) (by rw[a3];exact a2.2 j);rw[←a8 j];have ab:¬f=5:=(by omega);unfold aV;rw[if_neg ab,if_neg ab,bi,bb,a3]
     refine⟨.inr ⟨r,?_,bs,by rw[b1 (by omega)];unfold df;rw[if_neg (by omega)]⟩,.inr ⟨q,rfl,T,by rw[a4],by rw[K,a3]⟩,bw,?_⟩
     ·rcases bn with rfl|rfl
      ·rw[if_neg (by omega)]at K;rw[fU];unfold al aW;rw[if_neg I,if_neg E,if_neg (fun j=>?_),T]
       ·simp only[];rw[if_pos bg,if_pos (by rw[a3,K])];rw[bi,bb,K];exact congrArg _ (by cases r;simp only at J a1 ⊢;rw[J,a1])
       ·rw[K]at j;rw[j]at T;rcases(aY.1 (z.ext.leads g.hi)).2 with c|⟨ce,a,b,c,_⟩;·rw[dR c]at T;cases T
        ·rw[T]at a;have t:=Option.some.inj a;rw[←t,bg]at c;exact absurd bv (by have:=g.tb;intro _;clear a7;omega)
      ·rw[if_pos rfl]at K;rw[fV];unfold al aZ;rw[if_neg I,if_neg E,if_neg (by rw[K,a4];show¬M.bg q=0;omega),T];simp only[];rw[if_pos K.symm,if_pos bg,bi,bb,a3];exact congrArg _ (by cases r;simp only at J a1 ⊢;rw[J,a1])
     ·rw[K];split;·exact bw
      ·exact a2.2
    ·rename_i be
     have bq:r.J=r.I:=by
      rcases g.chain with W|W;·exact W.symm
      ·unfold eY at W;simp only[Bool.or_eq_true,beq_iff_eq]at W;by_cases q:r.J=r.I;·exact q
       ·exact absurd ⟨by omega,q⟩ be
     rw[←U,A]at L O N ⊢;obtain rfl:M'=M:=L;obtain rfl:lo=r.lo:=O;obtain rfl:hi=r.hi:=N;have S:(⟨f,l,l,r.lo,r.hi⟩:Rec)=r:=(by cases r;simp only at J a1 bq ⊢;rw[J,bq,a1]);refine⟨.inr ⟨r,?_,bs,?_⟩,.inl rfl,a2.1,a2.2⟩
     ·rcases br with rfl|rfl|rfl|rfl|rfl
      ·rw[fe];unfold al bY;rw[if_neg I,if_neg E,if_neg (g.apart (by omega) (by omega)),S]
      ·rw[ff];unfold al cr;rw[if_neg I,if_neg E,if_neg (g.zero (.inl J)),S]
      ·have s:=a8 (.inl rfl);unfold aV at s;rw[if_neg (by omega)]at s;rw[fU];unfold al aW;rw[if_neg I,if_neg E,if_neg (g.apart (by omega) (by omega))];cases W:look M'.cs r.lo.to with
       |none=>simp only[];rw[S]
       |some x=>
        rw[W]at s;simp only[]at s ⊢;rw[if_neg (by omega)]at s;split
        ·rename_i b3;rw[decide_eq_true (show x.I=r.J+1 by omega),Bool.true_and]at s;rw[if_neg (of_decide_eq_false s),S]
        ·rw[S]
      ·have s:=a8 (.inr (.inl rfl));unfold aV at s;rw[if_neg (by omega)]at s;rw[fV];unfold al aZ;rw[if_neg I,if_neg E,if_neg (g.zero (.inr J))];cases W:look M'.cs r.lo.to with
       |none=>simp only[];rw[S]
       |some x=>
        rw[W]at s;simp only[if_true]at s ⊢;split
        ·rename_i b3;rw[decide_eq_true b3,Bool.and_true]at s;have q:=of_decide_eq_false s;rw[if_neg (by omega),S]
        ·rw[S]
      ·have s:=a8 (.inr (.inr rfl));unfold aV at s;rw[if_pos rfl]at s;rw[fH];unfold bo;rw[if_neg I,if_neg E,if_neg (g.apart (by omega) (by omega)),if_neg (fun j=>?_),S];rw[decide_eq_true j.1,decide_eq_true (by rw[j.2];omega)]at s;cases s
     ·by_cases ab:f=5
      ·subst ab;have a6:¬(e.to=0∨l<e.tag):=fun j=>ad ⟨rfl,j⟩;have a':e.to≠0:=fun j=>a6 (.inl j);have:=b4 rfl a';unfold df;rw[if_pos rfl];omega
      ·rw[b1 ab];unfold df;rw[if_neg ab]

def oE (g:Int)(M:St)(l:Int)(lo hi:Edge):Prop:=
 (bX M (ak g M l lo hi)=0∧cR g (aR M (ak g M l lo hi)) l lo hi (aH g M (ak g M l lo hi))∧dg M (aR M (ak g M l lo hi)) 1∧bH (aR M (ak g M l lo hi)) g (aH g M (ak g M l lo hi)) l) ∨
 (bX M (ak g M l lo hi)=6∧aR M (ak g M l lo hi)=M∧aH g M (ak g M l lo hi)=⟨0,0⟩∧M.room≤M.len)

theorem xD {g:Int}{M:St}(h:M.wf){l:Int}{lo hi:Edge}(K:1≤g∧g≤5)(ab:0≤l)(ad:l<M.n)(a1:M.len<1048576)(X:M.leads g lo (l+1)=true)(Y:M.leads g hi (l+1)=true)
  (a2:bH M g lo (l+1)) (av:bH M g hi (l+1)):oE g M l lo hi:=by
 have E:=az.b0 M
 have a3:=qd h.b0 K ab ad a1 (E.leads X) (E.leads Y) (dv E h a2) (dv E h av)
 have Z:ak g M.b0 l lo hi=ak g M l lo hi:=rfl
 obtain⟨q,z,I,A⟩:=a3
 rw[Z]at q z I A
 unfold oE
 cases U:ak g M l lo hi with
 |inl x=>
  rw[U]at q z I A;have N:aH g M.b0 (.inl x)=aH g M (.inl x):=by unfold aH;split<;>rfl
  rw[N]at z A;exact .inl ⟨q,z.ext (az.hf M) K,⟨az.refl _,h,by show M.len≤M.len+1;omega,rfl⟩,dv (az.hf M) h.b0 A⟩
 |inr r=>
  rw[U]at q z I A;change M.b0.a7 r=0 at q;have L:M.b0.b4 r=M.b4 r:=rfl;have J:M.b0.bq r=M.bq r:=rfl;by_cases j:M.a7 r=0
  ·left
   have hid:M.b0.bg r=M.bg r:=by
    unfold St.a7 at q j;unfold St.bg;rw[L]at q ⊢;cases hi:M.b4 r with
    |some id=>rfl
    |none=>
     rw[hi]at q j;simp only[]at q j ⊢
     have s:M.bq r=false:=by
      cases s:M.bq r with
      |false=>rfl
      |true=>rw[s]at j;cases j
     rw[J,s]at q ⊢;rw[s]at j;rw[if_neg (by simp)]at q j;simp only[Bool.false_eq_true,if_false];have O:¬M.room≤M.len:=fun t=>(by rw[if_pos t]at j;cases j);have S:¬M.b0.room≤M.b0.len:=fun t=>(by rw[if_pos t]at q;cases q);rw[if_neg O,if_neg S];rfl
   have W:(M.b0.a6 r).cs=(M.a6 r).cs∧(M.b0.a6 r).n=(M.a6 r).n:=by
    unfold St.a7 at q j;unfold St.a6;rw[L]at q ⊢;cases hi:M.b4 r with
    |some id=>exact⟨rfl,rfl⟩
    |none=>
     rw[hi]at q j;simp only[]at q j ⊢
     have s:M.bq r=false:=by
      cases s:M.bq r with
      |false=>rfl
      |true=>rw[s]at j;cases j
     rw[J,s]at q ⊢;rw[s]at j;rw[if_neg (by simp)]at q j;simp only[Bool.false_eq_true,if_false];have O:¬M.room≤M.len:=fun t=>(by rw[if_pos t]at j;cases j);have S:¬M.b0.room≤M.b0.len:=fun t=>(by rw[if_pos t]at q;cases q);rw[if_neg O,if_neg S];exact⟨rfl,rfl⟩
   have T:az (M.b0.a6 r) (M.a6 r):=⟨W.2.symm,fun _ _ t=>by rw[←W.1];exact t⟩
   have N:aH g M.b0 (.inr r)=aH g M (.inr r):=by
    unfold aH;split
    ·show ba M.b0 r.I r=ba M r.I r;rw[dW q,dW j,hid]
    ·show ba M.b0 0 r=ba M 0 r;rw[dW q,dW j,hid]
   rw[N]at z A;have a4:(M.b0.a6 r).wf:=I.wf
   have am:dg M (M.a6 r) 1:=by
    cases s:M.bq r with
    |false=>
     obtain⟨O,t,E,S,I,N⟩:=iL h s j;exact⟨t,E,I,N⟩
    |true=>
     have aw:∃id,M.b4 r=some id:=by
      unfold St.a7 at j;cases hi:M.b4 r with
      |some id=>exact⟨id,rfl⟩
      |none=>rw[hi]at j;simp only[]at j;rw[s,if_pos rfl]at j;cases j
     obtain⟨id,hi⟩:=aw;have:=(jw h ((jz h.b2 r id).2 hi)).2.2;rw[this];exact dg.refl h (by decide)
   exact⟨j,z.ext T K,am,dv T a4 A⟩
  ·right
   have s:M.bq r=false:=by
    cases s:M.bq r with
    |false=>rfl
    |true=>
     exfalso;unfold St.a7 at q j;rw[L,J,s]at q;cases hi:M.b4 r with
     |some id=>rw[hi]at j;exact j rfl
     |none=>rw[hi]at q;simp at q
   obtain⟨q,t,z⟩:=kv s j;refine⟨q,t,?_,z⟩;unfold aH;split;·exact iM j
   ·exact iM j

theorem pN {g:Int}{M:St}(h:M.wf)(E:1≤g∧g≤5):∀(k:Nat) (l:Int),0≤l→l+(k:Int)=M.n→aC g M k (List.replicate (2 ^ k) false) l ⟨0,0⟩:=by
 have O:=h.n0;have S:=h.bw
 have I:∀l:Int,0≤l→l≤M.n→M.leads g ⟨0,0⟩ l=true:=fun l t K=>
  aY.2 ⟨bm.2 ⟨E.1,E.2,O,S,t,K,fun _=>rfl,fun _ j=>absurd rfl j⟩,.inl (by show(0:Int)<2;omega)⟩
 intro k;induction k with
 |zero=>intro l _ _;exact⟨false,rfl,rfl⟩
 |succ k K=>
  intro l t E;push_cast at E;have j:=K (l+1) (by omega) (by omega);have E:2 ^ (k+1)=2 ^ k+2 ^ k:=by rw[Nat.pow_succ];omega
  have T:(List.replicate (2 ^ (k+1)) false).take (2 ^ k)=List.replicate (2 ^ k) false:=by rw[List.take_replicate,E,Nat.min_eq_left (Nat.le_add_right _ _)]
  have L:(List.replicate (2 ^ (k+1)) false).drop (2 ^ k)=List.replicate (2 ^ k) false:=by rw[List.drop_replicate,E,Nat.add_sub_cancel]
  have J:=I l t (by omega);have A:=I (l+1) (by omega) (by omega);refine⟨by simp,⟨0,0⟩,⟨0,0⟩,by rw[T];exact j,by rw[L];exact j,⟨.inl ?_,.inl ?_,J,A,A⟩⟩
  ·have s:¬(l<0∨M.n≤l):=(by omega);have q:∀f:Int,f=g→¬(M.leads f ⟨0,0⟩ (l+1)=false∨M.leads f ⟨0,0⟩ (l+1)=false):=fun f t=>(by rw[t,A];simp);have N:g=1∨g=2∨g=3∨g=4∨g=5:=(by omega);rcases N with rfl|rfl|rfl|rfl|rfl;·rw[fe];unfold al bY;rw[if_neg s,if_neg (q _ rfl),if_pos rfl]
   ·rw[ff];unfold al cr;rw[if_neg s,if_neg (q _ rfl),if_pos rfl]
   ·rw[fU];unfold al aW;rw[if_neg s,if_neg (q _ rfl),if_pos rfl]
   ·rw[fV];unfold al aZ;rw[if_neg s,if_neg (q _ rfl),if_pos rfl]
   ·rw[fH];unfold bo;rw[if_neg s,if_neg (q _ rfl),if_pos rfl]
  ·unfold af;rw[if_neg (by omega),if_neg (by rw[J];simp)];by_cases z:g=5;·rw[if_pos ⟨z,.inl rfl⟩]
   ·rw[if_neg (fun j=>z j.1),dR (by decide)];show Sum.inl (aI g l ⟨0,0⟩)=_;unfold aI;rw[if_neg z];split<;>rfl

structure oD (f g:Int)(M:St)(e:Edge)(l:Int)(x:Edge):Prop where
 hZ:aC g M (M.n-l).toNat (cF M f e l) l x
 right:bH M g x l
 ok:x.ok
 own:bH M f e l→aC f M (M.n-l).toNat (cF M f e l) l e

section
variable {f g:Int}{M:St}{V:List (Edge×Int)}{e:Edge}{l:Int}

theorem vL (z:M.wf)(A:1≤f∧f≤5)(q:1≤g∧g≤5)(I:M.leads f e l=true)(s:0≤l)(j:e.to=0):oD f g M e l ⟨0,0⟩:=by
 obtain⟨K,U⟩:=aY.1 I;obtain⟨U,W,N,O,S,T,I,X⟩:=bm.1 K
 have L:e=⟨0,0⟩:=by
  have:=I (.inr j);cases e;simp only at j this;rw[j,this]
 have t:l+((M.n-l).toNat:Int)=M.n:=by omega
 have J:M.leads g ⟨0,0⟩ l=true:=aY.2 ⟨bm.2 ⟨q.1,q.2,N,O,S,T,fun _=>rfl,fun _ E=>absurd rfl E⟩,.inl (by show(0:Int)<2;omega)⟩;refine⟨by rw[n7 j];exact pN z q _ l s t,(lk J).2 (fun _=>mY (dR (by decide))),dQ,fun _=>by rw[n7 j,L];exact pN z A _ l s t⟩

theorem vK (s:M.wf)(T:1≤f∧f≤5)(U:1≤g∧g≤5)(K:e.ok)(L:M.leads f e l=true)(q:l=M.n)(I:e.to≠0):oD f g M e l (cc g true M.n):=by
 obtain⟨N,A⟩:=aY.1 L;obtain⟨L,T,U,W,X,Y,O,S⟩:=bm.1 N
 have j:e.to=1:=by
  have:=K.2.1;rcases A with A|⟨r,a,b,c,d⟩;·omega
  ·have g:=s.b8 a;have:=g.tb;have:=g.bn;omega
 have J:e=cc f true M.n:=by
  unfold cc;rw[if_pos rfl];split
  ·rename_i t;have:=S t I;cases e;simp only at j this;rw[j];congr 1
   omega
  ·rename_i t;have:=O (.inl t);cases e;simp only at j this;rw[j,this]
 have E:cF M f e l=[true]:=rG I q.symm;have z:(M.n-l).toNat=0:=by omega
 refine⟨?_,?_,pd (by have:=s.n0;omega) (by have:=s.bw;omega),fun _=>?_⟩;·rw[E,z,q];exact⟨true,rfl,rfl⟩
 ·rw[q];exact pf s
 ·rw[E,z,q];exact⟨true,rfl,J⟩

end

end Go.Proofs.YtafkamlhimkbmaaGreat
