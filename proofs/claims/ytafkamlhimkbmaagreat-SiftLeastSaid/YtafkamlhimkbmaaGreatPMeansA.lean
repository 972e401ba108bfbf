/-
  Plainly: what an edge means, level by level; View tells the two halves of what it means.
-/
import Derived.Test.YtafkamlhimkbmaaGreatPKPlain
import Derived.Test.YtafkamlhimkbmaaGreatPSoundP
import Derived.Test.YtafkamlhimkbmaaGreatPSwapA
import Derived.Maps.Views
namespace Go.Proofs.YtafkamlhimkbmaaGreat
set_option maxRecDepth 1000000
set_option maxHeartbeats 8000000
set_option linter.unusedSimpArgs false
set_option linter.unusedVariables false

def aW (M:St)(f l:Int)(e:Edge):Prop:=l≤M.n∧(e.to<2∨∃r,look M.cs e.to=some r∧r.ad=f∧l≤r.I)

theorem aW.of {M:St}{f l:Int}{e:Edge}(h:M.leads f e l=true):aW M f l e:=by
 obtain⟨j,q⟩:=aU.1 h;obtain⟨t,z,A,E,I,s,J,K⟩:=bj.1 j;exact⟨s,q.imp id (fun⟨r,a,b,c,_⟩=>⟨r,a,b,c⟩)⟩

theorem aW.next {M:St}{f l:Int}{e:Edge}(q:aW M f l e)(s:l<M.n):(look M.cs e.to=none∧aW M f (l+1) e)∨∃r,look M.cs e.to=some r∧r.ad=f∧((l<r.I∧aW M f (l+1) e)∨l=r.I):=by
 obtain⟨s,j⟩:=q;rcases j with j|⟨r,a,b,c⟩;·exact .inl ⟨dM j,by omega,.inl j⟩
 ·right;refine⟨r,a,b,?_⟩;by_cases j:l<r.I;·exact .inl ⟨j,by omega,.inr ⟨r,a,b,by omega⟩⟩
  ·exact .inr (by omega)

theorem fq {M:St}{f x l:Int}{e:Edge}(q:e.to=0):∀j,hS M f x j l e=false:=by
 intro j;cases j with
 |zero=>show decide (e.to≠0)=false;simp[q]
 |succ j=>show(if e.to=0 then false else _)=false;rw[if_pos q]

theorem fo {M:St}{f x l:Int}{e:Edge}(q:e.to≠0)(s:M.n≤l):∀j,hS M f x j l e=true:=by
 intro j;cases j with
 |zero=>exact decide_eq_true q
 |succ j=>show(if e.to=0 then false else if M.n≤l then true else _)=true;rw[if_neg q,if_pos s]

theorem dG {M:St}{f x l:Int}{e:Edge}{q:Nat}(t:e.to≠0)(z:l<M.n)(j:look M.cs e.to=none∨∃r,look M.cs e.to=some r∧l<r.I):hS M f x (q+1) l e=(if cL f e l&&an x l then false else hS M f x q (l+1) e):=by
 show(if e.to=0 then false else if M.n≤l then true else match look M.cs e.to with|none=>_|some r=>_)=_;rw[if_neg t,if_neg (by omega)];rcases j with j|⟨r,j,s⟩;·rw[j]
 ·rw[j];simp only[];rw[if_pos s]

theorem gg {M:St}{f x l:Int}{e:Edge}{r:Rec}{j:Nat}(t:l<M.n)(q:look M.cs e.to=some r)(s:¬l<r.I):hS M f x (j+1) l e=hS M f x j (r.J+1) (bF x r):=by
 have j:e.to≠0:=by have:=(bI q).1;omega
 show(if e.to=0 then false else if M.n≤l then true else match look M.cs e.to with|none=>_|some r=>_)=_;rw[if_neg j,if_neg (by omega),q];simp only[];rw[if_neg s]

theorem ld {M:St}(h:M.wf){f x:Int}{e:Edge}{r:Rec}(q:look M.cs e.to=some r)(j:r.ad=f):aW M f (r.J+1) (bF x r):=by
 have:=zS h q (x:=x);rw[j]at this;exact aW.of this

theorem vm {M:St}(h:M.wf){f x:Int}:∀(s q:Nat) (l:Int) (e:Edge),aW M f l e→M.n-l≤(s:Int)→M.n-l≤(q:Int)→hS M f x s l e=hS M f x q l e:=by
 intro s;induction s with
 |zero=>
  intro q l e E t z;by_cases j:e.to=0;·rw[fq j,fq j]
  ·rw[fo j (by omega),fo j (by omega)]
 |succ s A=>
  intro q l e E t z;by_cases j:e.to=0;·rw[fq j,fq j]
  ·by_cases s:M.n≤l;·rw[fo j s,fo j s]
   ·cases q with
    |zero=>omega
    |succ q=>
     push_cast at t z;rcases E.next (by omega)with⟨s,z⟩|⟨r,s,E,⟨t,z⟩|t⟩
     ·rw[dG j (by omega) (.inl s),dG j (by omega) (.inl s),A q (l+1) e z (by omega) (by omega)]
     ·rw[dG j (by omega) (.inr ⟨r,s,t⟩),dG j (by omega) (.inr ⟨r,s,t⟩),A q (l+1) e z (by omega) (by omega)]
     ·have j:=(h.b7 s).tb;rw[gg (by omega) s (by omega),gg (by omega) s (by omega),A q _ _ (ld h s E) (by omega) (by omega)]

theorem tL {x q:Int}:∀(n:Nat) (a:Int),(∀j,a≤j→an x j=an q j)→fh x a n=fh q a n:=by
 intro n;induction n with
 |zero=>intro a _;rfl
 |succ n t=>
  intro a s;show(!an x a&&fh x (a+1) n)=(!an q a&&fh q (a+1) n);rw[s a (Int.le_refl _),t (a+1) (fun j q=>s j (by omega))]

theorem vk {M:St}(h:M.wf){f x J:Int}:∀(z:Nat) (l:Int) (e:Edge),aW M f l e→(∀j,l≤j→an x j=an J j)→hS M f x z l e=hS M f J z l e:=by
 intro z;induction z with
 |zero=>intro l e _ _;rfl
 |succ z I=>
  intro l e E t;by_cases s:e.to=0;·rw[fq s,fq s]
  ·by_cases z:M.n≤l;·rw[fo s z,fo s z]
   ·rcases E.next (by omega)with⟨q,E⟩|⟨r,q,K,⟨z,E⟩|z⟩
    ·rw[dG s (by omega) (.inl q),dG s (by omega) (.inl q),t l (Int.le_refl _),I (l+1) e E (fun j A=>t j (by omega))]
    ·rw[dG s (by omega) (.inr ⟨r,q,z⟩),dG s (by omega) (.inr ⟨r,q,z⟩),t l (Int.le_refl _),I (l+1) e E (fun j A=>t j (by omega))]
    ·have s:=(h.b7 q).tb
     have L:bF x r=bF J r:=by
      unfold bF ez;rw[tL _ r.I (fun j A=>t j (by omega)),t r.J (by omega)]
     rw[gg (by omega) q (by omega),gg (by omega) q (by omega),L,I _ _ (ld h q K) (fun j A=>t j (by omega))]

theorem vl {M M':St}(h:M.wf)(A:au M M'){f x:Int}:∀(s:Nat) (l:Int) (e:Edge),aW M f l e→hS M' f x s l e=hS M f x s l e:=by
 intro s;have O:=A.n;induction s with
 |zero=>intro l e _;rfl
 |succ s J=>
  intro l e K;by_cases q:e.to=0;·rw[fq q,fq q]
  ·by_cases s:M.n≤l;·rw[fo q s,fo q (by omega)]
   ·have N:=K;rcases K.next (by omega)with⟨j,I⟩|⟨r,j,L,⟨E,I⟩|E⟩
    ·have t:look M'.cs e.to=none:=by
      rcases N.2 with z|⟨r,z,_⟩;·exact dM z
      ·rw[j]at z;cases z
     rw[dG q (by omega) (.inl j),dG q (by omega) (.inl t),J (l+1) e I]
    ·have t:=A.sub _ _ j;rw[dG q (by omega) (.inr ⟨r,j,E⟩),dG q (by omega) (.inr ⟨r,t,E⟩),J (l+1) e I]
    ·have t:=A.sub _ _ j;rw[gg (by omega) j (by omega),gg (by omega) t (by omega),J _ _ (ld h j L)]

theorem vn {M:St}{f x:Int}:∀(s:Nat) (l:Int) (e j:Edge),aW M f l e→e.to=j.to→(∀t,l≤t→cL f e t=cL f j t)→hS M f x s l e=hS M f x s l j:=by
 intro s;induction s with
 |zero=>intro l e j _ q _;show decide (e.to≠0)=decide (j.to≠0);rw[q]
 |succ s K=>
  intro l e j E q A;by_cases z:e.to=0;·rw[fq z,fq (q ▸ z)]
  ·have J:j.to≠0:=q ▸ z;by_cases s:M.n≤l;·rw[fo z s,fo J s]
   ·rcases E.next (by omega)with⟨s,I⟩|⟨r,s,L,⟨E,I⟩|E⟩
    ·rw[dG z (by omega) (.inl s),dG J (by omega) (.inl (q ▸ s)),A l (Int.le_refl _),K (l+1) e j I q (fun t L=>A t (by omega))]
    ·rw[dG z (by omega) (.inr ⟨r,s,E⟩),dG J (by omega) (.inr ⟨r,q ▸ s,E⟩),A l (Int.le_refl _),K (l+1) e j I q (fun t L=>A t (by omega))]
    ·rw[gg (by omega) s (by omega),gg (by omega) (q ▸ s) (by omega)]

def tv (M:St)(f x l:Int)(e:Edge):Bool:=hS M f x (M.n-l).toNat l e

theorem dA {M M':St}(h:M.wf)(j:au M M'){f x l:Int}{e:Edge}(q:aW M f l e):tv M' f x l e=tv M f x l e:=by
 unfold tv;rw[j.n];exact vl h j _ l e q

theorem rh {M:St}(h:M.wf){f x q l:Int}{e:Edge}(t:aW M f l e)(s:∀j,l≤j→an x j=an q j):tv M f x l e=tv M f q l e:=vk h _ l e t s

theorem dt {M:St}{f x l:Int}{e:Edge}(j:e.to=0):tv M f x l e=false:=fq j _

theorem Bn {M:St}{f x l:Int}{e:Edge}(q:e.to≠0)(j:M.n≤l):tv M f x l e=true:=fo q j _

theorem iz {M:St}{f x l:Int}{e:Edge}(s:e.to≠0)(q:l<M.n)(j:look M.cs e.to=none∨∃r,look M.cs e.to=some r∧l<r.I):tv M f x l e=(if cL f e l&&an x l then false else tv M f x (l+1) e):=by
 unfold tv;rw[show(M.n-l).toNat=(M.n-(l+1)).toNat+1 by omega];exact dG s q j

theorem jb {M:St}(h:M.wf){f x l:Int}{e:Edge}{r:Rec}(s:l<M.n)(j:look M.cs e.to=some r)(q:r.ad=f)(t:¬l<r.I)(z:r.I=l):tv M f x l e=tv M f x (r.J+1) (bF x r):=by
 have z:=(h.b7 j).tb;unfold tv;rw[show(M.n-l).toNat=(M.n-(l+1)).toNat+1 by omega,gg s j t];exact vm h _ _ _ _ (ld h j q) (by omega) (by omega)

theorem rk {M:St}{f x l:Int}{e j:Edge}(z:aW M f l e)(t:e.to=j.to)(s:∀q,l≤q→cL f e q=cL f j q):tv M f x l e=tv M f x l j:=vn _ l e j z t s

theorem ri {M:St}{f x:Int}{e:Edge}(j:f=3){b:Int}(t:b≤M.n)(q:e.to<2∨∃r,look M.cs e.to=some r∧b≤r.I):∀(d:Nat) (l:Int),l+(d:Int)=b→tv M f x l e=tv M f x b e:=by
 subst j;intro d;induction d with
 |zero=>intro l j;rw[show l=b by omega]
 |succ d s=>
  intro l j;push_cast at j;by_cases j:e.to=0;·rw[dt j,dt j]
  ·rw[iz j (by omega) (q.imp dM (fun⟨r,a,c⟩=>⟨r,a,by omega⟩)),show cL 3 e l=false from rfl,Bool.false_and,s (l+1) (by omega)];rfl

theorem iK {M:St}(h:M.wf){r:Rec}(q:M.bp r=false)(j:M.a7 r=0) :
  look (M.a6 r).cs (M.bg r)=some r∧au M (M.a6 r)∧(M.a6 r).wf∧2≤M.bg r∧(M.a6 r).len≤M.len+1∧(M.a6 r).room=M.room:=by
 cases hi:M.b3 r with
 |some id=>
  have s:=(jx h.b2 r id).2 hi;obtain⟨a,b,c⟩:=jt h s;rw[b,c];exact⟨s,au.refl M,h,(bI s).1,by omega,rfl⟩
 |none=>
  have t:M.len<M.room:=by
   unfold St.a7 at j;rw[hi]at j;simp only[]at j;rw[if_neg (by rw[q];simp)]at j;split at j;·cases j
   ·omega
  obtain⟨a,b,c,d,e,g⟩:=js h q t;have j:=lV h q t;exact⟨b,j.ext,j.wf,g,j.len,j.room⟩

theorem kh {M:St}{r:Rec}(s:M.bp r=false)(j:M.a7 r≠0):M.a7 r=6∧M.a6 r=M∧M.room≤M.len:=by
 unfold St.a7 at j ⊢;unfold St.a6;cases hi:M.b3 r with
 |some id=>rw[hi]at j;exact absurd rfl j
 |none=>
  rw[hi]at j;simp only[]at j ⊢;rw[if_neg (by rw[s];simp)]at j ⊢;split at j
  ·rename_i q;rw[if_pos q,if_neg (by rw[s];simp),if_pos q];exact⟨rfl,rfl,q⟩
  ·exact absurd rfl j

structure iH (f:Int)(M:St)(l:Int)(e:Edge)(M':St)(lo hi:Edge):Prop where
 ext:au M M'
 wf:M'.wf
 len:M'.len≤M.len+1
 room:M'.room=M.room
 cl:M'.leads f lo (l+1)=true
 ch:M'.leads f hi (l+1)=true
 cx:∀x,tv M f x l e=tv M' f x (l+1) (if an x l then hi else lo)

theorem pj {M:St}{f l l':Int}{e:Edge}(h:M.leads f e l=true)(j:0≤l')(q:l'≤M.n):M.leads f ⟨0,0⟩ l'=true:=by
 obtain⟨t,z⟩:=aU.1 h;obtain⟨z,A,E,I,J,K,L,N⟩:=bj.1 t;exact aU.2 ⟨bj.2 ⟨z,A,E,I,j,q,fun _=>rfl,fun _ s=>absurd rfl s⟩,.inl (by show(0:Int)<2;omega)⟩

theorem rr {f:Int}{M:St}(h:M.wf){l:Int}{e:Edge}(A:M.leads f e l=true)(z:l<M.n)(j:look M.cs e.to=none∨∃r,look M.cs e.to=some r∧l<r.I)(L:¬(f=5∧(e.to=0∨l<e.tag))) :
  iH f M l e M (aF f l e).1 (aF f l e).2.1∧(aF f l e).2.2=0:=by
 have a3:=A
 obtain⟨ad,J⟩:=aU.1 A
 obtain⟨O,S,T,U,a3,a4,a1,a5⟩:=bj.1 ad
 have av:=aW.of A
 have aw:aW M f (l+1) e:=by
  rcases av.next z with⟨_,q⟩|⟨r,E,_,⟨_,q⟩|q⟩
  ·exact q
  ·exact q
  ·rcases j with j|⟨a2,j,ab⟩;·rw[j]at E;cases E
   ·rw[j]at E;cases E;omega
 have I:e.to<2∨∃r,look M.cs e.to=some r∧r.ad=f∧l+1≤r.I∧e.tag≤r.I:=by
  rcases J with J|⟨r,a,b,c,d⟩;·exact .inl J
  ·rcases j with j|⟨a2,j,ab⟩;·rw[j]at a;cases a
   ·rw[j]at a;cases a;exact .inr ⟨_,j,b,by omega,d⟩
 have K:=pj A (l':=l+1) (by omega) (by omega)
 have X:f=1∨f=2∨f=3∨f=4∨f=5:=by omega
 have plain:f≠5→M.leads f e (l+1)=true:=fun s=>aU.2 ⟨bj.2 ⟨O,S,T,U,by omega,by omega,a1,fun a=>absurd a s⟩,I⟩
 have free:(f=1∨f=3)→∀x,tv M f x l e=tv M f x (l+1) (if an x l then e else e):=fun s x=>by
  rw[ite_self];by_cases t:e.to=0;·rw[dt t,dt t]
  ·rw[iz t z j];have:cL f e l=false:=by rcases s with rfl|rfl<;>rfl
   rw[this,Bool.false_and];rfl
 have zero:(f=2∨f=4)→∀x,tv M f x l e=tv M f x (l+1) (if an x l then⟨0,0⟩else e):=fun s x=>by
  by_cases t:e.to=0
  ·rw[dt t];split;·rw[dt rfl]
   ·rw[dt t]
  ·rw[iz t z j];have:cL f e l=true:=by rcases s with rfl|rfl<;>rfl
   rw[this,Bool.true_and];cases W:an x l with
   |true=>rw[if_pos rfl,if_pos rfl,dt rfl]
   |false=>rw[if_neg (by simp),if_neg (by simp)]
 unfold aF
 rcases X with rfl|rfl|rfl|rfl|rfl
 ·rw[if_pos (.inl rfl)];exact⟨⟨au.refl _,h,by omega,rfl,plain (by omega),plain (by omega),free (.inl rfl)⟩,rfl⟩
 ·rw[if_neg (by omega),if_neg (by omega)];exact⟨⟨au.refl _,h,by omega,rfl,plain (by omega),K,zero (.inl rfl)⟩,rfl⟩
 ·rw[if_pos (.inr rfl)];exact⟨⟨au.refl _,h,by omega,rfl,plain (by omega),plain (by omega),free (.inr rfl)⟩,rfl⟩
 ·rw[if_neg (by omega),if_neg (by omega)];exact⟨⟨au.refl _,h,by omega,rfl,plain (by omega),K,zero (.inr rfl)⟩,rfl⟩
 ·rw[if_neg (by omega),if_pos rfl];have t:e.to≠0:=fun s=>L ⟨rfl,.inl s⟩;have am:e.tag≤l:=by have:¬l<e.tag:=fun s=>L ⟨rfl,.inr s⟩;omega
  have Z:M.leads 5 ⟨l+1,e.to⟩ (l+1)=true:=by
   refine aU.2 ⟨bj.2 ⟨O,S,T,U,by omega,by omega,fun s=>absurd s (by simp[t]),fun _ _=>⟨Int.le_refl _,by show l+1≤M.n;omega⟩⟩,?_⟩;rcases I with I|⟨r,a,b,c,d⟩;·exact .inl I
   ·exact .inr ⟨r,a,b,c,c⟩
  refine⟨⟨au.refl _,h,by omega,rfl,Z,K,fun x=>?_⟩,rfl⟩;rw[iz t z j];have:cL 5 e l=true:=by unfold cL;rw[decide_eq_true am];rfl
  rw[this,Bool.true_and];cases W:an x l with
  |true=>rw[if_pos rfl,if_pos rfl,dt rfl]
  |false=>
   rw[if_neg (by simp),if_neg (by simp)];refine rk aw rfl (fun N Y=>?_);unfold cL;rw[decide_eq_true (show e.tag≤N by omega),decide_eq_true (show(⟨l+1,e.to⟩:Edge).tag≤N from Y)]

theorem fB {f:Int}{M:St}(h:M.wf){l:Int}{e:Edge}(L:M.leads f e l=true)(O:l<M.n)(t:bQ M (af M f e l)=0) :
  iH f M l e (bN M (af M f e l)) (bK M (af M f e l)) (bf M f (af M f e l)):=by
 obtain⟨bg,I⟩:=aU.1 L
 obtain⟨a4,a5,br,bs,bx,b0,a6,bt⟩:=bj.1 bg
 have bg:=aW.of L
 unfold af at t ⊢
 rw[if_neg (by omega),if_neg (by rw[L];simp)]at t ⊢
 split at t
 ·rename_i q;rw[if_pos q];obtain⟨rfl,q⟩:=q;show iH 5 M l e M e e
  have ad:M.leads 5 e (l+1)=true:=by
   by_cases E:e.to=0
   ·have aw:e.tag=0:=a6 (.inr E);have:e=⟨0,0⟩:=(by cases e;simp only at E aw;rw[E,aw]);rw[this];exact pj L (by omega) (by omega)
   ·have J:l<e.tag:=(by rcases q with q|q;exact absurd q E;exact q);have:=bt rfl E;refine aU.2 ⟨bj.2 ⟨a4,a5,br,bs,by omega,by omega,a6,fun _ _=>by omega⟩,?_⟩;rcases I with I|⟨r,a,b,c,d⟩;·exact .inl I
    ·exact .inr ⟨r,a,b,by omega,d⟩
  refine⟨au.refl _,h,by omega,rfl,ad,ad,fun x=>?_⟩;rw[ite_self];by_cases E:e.to=0;·rw[dt E,dt E]
  ·have J:l<e.tag:=by rcases q with q|q;exact absurd q E;exact q
   have A:look M.cs e.to=none∨∃r,look M.cs e.to=some r∧l<r.I:=by
    rcases I with I|⟨r,a,b,c,d⟩;·exact .inl (dM I)
    ·exact .inr ⟨r,a,by omega⟩
   rw[iz E O A];have:cL 5 e l=false:=(by unfold cL;rw[decide_eq_false (show¬e.tag≤l by omega)];rfl);rw[this,Bool.false_and];rfl
 ·rename_i q;rw[if_neg q];cases A:look M.cs e.to with
  |none=>exact(rr h L O (.inl A) q).1
  |some r=>
   rw[A]at t;simp only[]at t ⊢;have g:=h.b7 A;have E:=g.tb;have E:=g.bn
   have z:r.ad=f∧l≤r.I:=by
    rcases I with I|⟨a7,a,b,c,d⟩;·rw[dM I]at A;cases A
    ·rw[A]at a;cases a;exact⟨b,c⟩
   by_cases J:l<r.I
   ·rw[if_pos J];exact(rr h L O (.inr ⟨r,A,J⟩) q).1
   ·rw[if_neg J]at t ⊢;have K:r.I=l:=(by omega);obtain⟨z,_⟩:=z;split at t
    ·rename_i S;rw[if_pos S];obtain⟨Y,q⟩:=S;have Z:M.bp ⟨r.ad,r.I+1,r.J,r.lo,r.hi⟩=false:=kR g h.br (by omega) (by rw[z];exact Y) q;obtain⟨j,s⟩:∃j:Rec,j=⟨r.ad,r.I+1,r.J,r.lo,r.hi⟩:=⟨_,rfl⟩;rw[←s]at t Z ⊢;change M.a7 j=0 at t;obtain⟨a1,N,a2,q,bn,bp⟩:=iK h Z t;have q:bK M (.inr j)=⟨0,M.bg j⟩:=dR t
     have E:bf M f (.inr j)=if f=4 then⟨0,M.bg j⟩else r.hi:=by
      show(if M.a7 j=0 then(if f=4 then aX M 0 j else j.hi)else⟨0,0⟩:Edge)=_;rw[if_pos t,dR t,s]
     rw[q,E];show iH f M l e (M.a6 j) _ _;have q:=N.n;have bb:f≠5:=by omega
     have a3:(M.a6 j).leads f ⟨0,M.bg j⟩ (l+1)=true:=by
      refine aU.2 ⟨bj.2 ⟨a4,a5,by omega,by omega,by omega,by omega,fun _=>rfl,fun a=>absurd a bb⟩,.inr ⟨j,a1,by rw[s];exact z,by rw[s];show l+1≤r.I+1;omega,by rw[s];show(0:Int)≤r.I+1;omega⟩⟩
     have bq:(M.a6 j).leads f r.hi (l+1)=true:=by
      have:=N.leads g.hi;rw[z]at this;exact kx this (by omega) (by omega)
     have av:∀x,tv (M.a6 j) f x (l+1) ⟨0,M.bg j⟩=tv M f x (r.J+1) (bF x j):=fun x=>by
      have q:j.I=l+1:=(by rw[s];show r.I+1=_;omega);have t:j.J=r.J:=(by rw[s]);rw[jb a2 (by omega) a1 (by rw[s];exact z) (by omega) q,t];refine dA h N ?_;unfold bF;split;·rw[s,←z];exact aW.of g.hi
      ·rw[s,←z];exact aW.of g.lo
     have be:∀x,tv M f x l e=tv M f x (r.J+1) (bF x r):=fun x=>jb h O A z J K;refine⟨N,a2,bn,bp,a3,?_,fun x=>?_⟩
     ·split;·exact a3
      ·exact bq
     ·rw[be x];rcases Y with a8|a'
      ·rw[if_neg (show¬f=4 by omega)]
       have am:ez x r=(an x l||ez x j):=by
        unfold ez;rw[if_pos (by omega),if_pos (by rw[s];show r.ad=3;omega),s];show(!fh x r.I (r.J+1-r.I).toNat)=(an x l||!fh x (r.I+1) (r.J+1-(r.I+1)).toNat);rw[show(r.J+1-r.I).toNat=(r.J+1-(r.I+1)).toNat+1 by omega];show(!(!an x r.I&&fh x (r.I+1) _))=_;rw[K];cases an x l<;>simp
       cases ab:an x l with
       |true=>
        rw[if_pos rfl];have:bF x r=r.hi:=(by unfold bF;rw[am,ab];rfl);rw[this,←dA h N (by rw[←z];exact aW.of g.hi)];refine(ri a8 (by omega) ?_ (r.J-l).toNat (l+1) (by omega)).symm;rcases(aU.1 (N.leads g.hi)).2 with q|⟨a7,a,b,c,_⟩;·exact .inl q
        ·exact .inr ⟨a7,a,c⟩
       |false=>
        rw[if_neg (by simp),av x];have:bF x r=bF x j:=(by unfold bF;rw[am,ab,Bool.false_or,s]);rw[this]
      ·rw[if_pos a',ite_self,av x]
       have:bF x r=bF x j:=by
        have bv:ez x r=an x r.J:=(by unfold ez;rw[if_neg (show¬r.ad=3 by omega)]);have bw:ez x j=an x r.J:=(by unfold ez;rw[if_neg (show¬j.ad=3 by rw[s];show¬r.ad=3;omega),s]);unfold bF;rw[bv,bw,s]
       rw[this]
    ·rename_i S;rw[if_neg S];show iH f M l e M r.lo r.hi
     have T:r.J=r.I:=by
      rcases g.chain with U|U;·exact U.symm
      ·unfold eQ at U;simp only[Bool.or_eq_true,beq_iff_eq]at U;by_cases j:r.J=r.I;·exact j
       ·exact absurd ⟨by omega,j⟩ S
     have X:=g.lo;have W:=g.hi;rw[z,T,K]at X W;refine⟨au.refl _,h,by omega,rfl,X,W,fun x=>?_⟩;rw[jb h O A z J K,T,K]
     have bi:ez x r=an x l:=by
      unfold ez;split
      ·rw[T,K,show(l+1-l).toNat=1 by omega];show(!(!an x l&&true))=_;simp
      ·rw[T,K]
     unfold bF;rw[bi]

theorem k8 {f:Int}{M:St}(h:M.wf){l:Int}{e:Edge}(t:M.leads f e l=true)(I:l<M.n)(j:bQ M (af M f e l)≠0) :
  bQ M (af M f e l)=6∧bN M (af M f e l)=M∧M.room≤M.len:=by
 obtain⟨A,s⟩:=aU.1 t
 obtain⟨I,J,K,L,N,O,S,T⟩:=bj.1 A
 have z:(aF f l e).2.2=0:=by
  unfold aF;split;·rfl
  ·split<;>rfl
 unfold af at j ⊢
 rw[if_neg (by omega),if_neg (by rw[t];simp)]at j ⊢
 split at j
 ·exact absurd rfl j
 ·rename_i t;rw[if_neg t];cases q:look M.cs e.to with
  |none=>rw[q]at j;exact absurd z j
  |some r=>
   rw[q]at j;simp only[]at j ⊢;have g:=h.b7 q
   have E:r.ad=f∧l≤r.I:=by
    rcases s with s|⟨t,a,b,c,d⟩;·rw[dM s]at q;cases q
    ·rw[q]at a;cases a;exact⟨b,c⟩
   split at j;·exact absurd z j
   ·rename_i q;rw[if_neg q];split at j
    ·rename_i q;rw[if_pos q];exact kh (kR g h.br (by omega) (by rw[E.1];exact q.1) q.2) j
    ·exact absurd rfl j

def dc (g:Int→Bool):Nat→Nat→Int→List Bool
 |0,_,x=>[g x]
 |k+1,m,x=>dc g k (m+1) x++dc g k (m+1) (x+2 ^ m)

theorem qV (g:Int→Bool):∀(k m:Nat) (x:Int),(dc g k m x).length=2 ^ k:=by
 intro k;induction k with
 |zero=>intro m x;rfl
 |succ k j=>
  intro m x;show(dc g k (m+1) x++dc g k (m+1) (x+2 ^ m)).length=_;rw[List.length_append,j,j,Nat.pow_succ];omega

theorem nj {g s:Int→Bool}:∀(k m:Nat) (x q:Int),(∀j:Nat,g (x+2 ^ m*(j:Int))=s (q+2 ^ m*(j:Int)))→dc g k m x=dc s k m q:=by
 intro k;induction k with
 |zero=>
  intro m x q h;have:=h 0;simp at this;show[g x]=[s q];rw[this]
 |succ k t=>
  intro m x q h;show dc g k (m+1) x++dc g k (m+1) (x+2 ^ m)=dc s k (m+1) q++dc s k (m+1) (q+2 ^ m);rw[t (m+1) x q (fun j=>?_),t (m+1) (x+2 ^ m) (q+2 ^ m) (fun j=>?_)]
  ·have:=h (1+2*j);push_cast at this
   rw[show x+2 ^ m+2 ^ (m+1)*(j:Int)=x+2 ^ m*(1+2*(j:Int)) by rw[Int.pow_succ];rw[Int.mul_add,Int.mul_one,←Int.mul_assoc];omega,
    show q+2 ^ m+2 ^ (m+1)*(j:Int)=q+2 ^ m*(1+2*(j:Int)) by rw[Int.pow_succ];rw[Int.mul_add,Int.mul_one,←Int.mul_assoc];omega]
   exact this
  ·have:=h (2*j);push_cast at this
   rw[show x+2 ^ (m+1)*(j:Int)=x+2 ^ m*(2*(j:Int)) by rw[Int.pow_succ,←Int.mul_assoc],
    show q+2 ^ (m+1)*(j:Int)=q+2 ^ m*(2*(j:Int)) by rw[Int.pow_succ,←Int.mul_assoc]]
   exact this

theorem AL {g:Int→Bool}(h:∀x,g x=false):∀(k m:Nat) (x:Int),dc g k m x=List.replicate (2 ^ k) false:=by
 intro k;induction k with
 |zero=>intro m x;show[g x]=_;rw[h x];rfl
 |succ k j=>
  intro m x;show dc g k (m+1) x++dc g k (m+1) (x+2 ^ m)=_;rw[j,j,List.replicate_append_replicate,Nat.pow_succ];congr 1
  omega

def cz (M:St)(f:Int)(e:Edge)(l:Int):List Bool:=dc (fun x=>tv M f x l e) (M.n-l).toNat l.toNat 0

theorem nh {M:St}{f:Int}{e:Edge}{l:Int}:(cz M f e l).length=2 ^ (M.n-l).toNat:=qV _ _ _ _

theorem qS {M M':St}(h:M.wf)(j:au M M'){f l:Int}{e:Edge}(q:aW M f l e):cz M' f e l=cz M f e l:=by
 unfold cz;rw[j.n];exact nj _ _ _ _ (fun s=>dA h j q)

theorem ni {M:St}{f l:Int}{e:Edge}(j:e.to=0):cz M f e l=List.replicate (2 ^ (M.n-l).toNat) false:=AL (fun _=>dt j) _ _ _

theorem qR {M:St}{f l:Int}{e:Edge}(j:e.to≠0)(q:M.n=l):cz M f e l=[true]:=by
 unfold cz;rw[show(M.n-l).toNat=0 by omega];show[tv M f 0 l e]=_;rw[Bn j (by omega)]

theorem sQ (m j:Nat):an (0+2 ^ (m+1)*(j:Int)) (m:Int)=false:=by
 unfold an;rw[Int.toNat_natCast,Int.zero_add,Int.pow_succ,show(2:Int) ^ m*2*(j:Int)=2 ^ m*(2*(j:Int)) by rw[Int.mul_assoc],Int.mul_ediv_cancel_left _ (Int.ne_of_gt (Int.pow_pos (by decide)))];rw[decide_eq_false];omega

theorem sP (m j:Nat):an (0+2 ^ m+2 ^ (m+1)*(j:Int)) (m:Int)=true:=by
 unfold an;rw[Int.toNat_natCast,Int.zero_add,Int.pow_succ,show(2:Int) ^ m+2 ^ m*2*(j:Int)=2 ^ m*(1+2*(j:Int)) by rw[Int.mul_add,Int.mul_one,←Int.mul_assoc],Int.mul_ediv_cancel_left _ (Int.ne_of_gt (Int.pow_pos (by decide)))];rw[decide_eq_true];omega

theorem sO (m j:Nat)(q:Int)(A:(m:Int)+1≤q):an (0+2 ^ m+2 ^ (m+1)*(j:Int)) q=an (0+2 ^ (m+1)*(j:Int)) q:=by
 obtain⟨d,z⟩:∃d:Nat,q.toNat=(m+1)+d:=⟨q.toNat-(m+1),by omega⟩;have q:(0:Int)<2 ^ m:=Int.pow_pos (by decide)
 have s:(0+2 ^ m+2 ^ (m+1)*(j:Int)) / 2 ^ (m+1)=(j:Int):=by
  rw[Int.add_mul_ediv_left _ _ (Int.ne_of_gt (Int.pow_pos (by decide)))];rw[Int.ediv_eq_zero_of_lt (by omega) (by rw[Int.pow_succ];omega)];omega
 have t:(0+2 ^ (m+1)*(j:Int)) / 2 ^ (m+1)=(j:Int):=by
  rw[Int.zero_add,Int.mul_ediv_cancel_left _ (Int.ne_of_gt (Int.pow_pos (by decide)))]
 have key:∀a:Int,a / 2 ^ (m+1+d)=a / 2 ^ (m+1) / 2 ^ d:=fun a=>by
  rw[Int.ediv_ediv_of_nonneg (Int.le_of_lt (Int.pow_pos (by decide))),←Int.pow_add]
 unfold an;rw[z,key,key,s,t]

theorem qW {f:Int}{M M':St}{l:Int}{e lo hi:Edge}(j:iH f M l e M' lo hi)(s:0≤l)(t:l<M.n):cz M f e l=cz M' f lo (l+1)++cz M' f hi (l+1):=by
 have s:=j.ext.n;obtain⟨m,rfl⟩:∃m:Nat,l=(m:Int):=⟨l.toNat,by omega⟩;unfold cz;rw[show(M.n-(m:Int)).toNat=(M'.n-((m:Int)+1)).toNat+1 by omega,Int.toNat_natCast,show((m:Int)+1).toNat=m+1 by omega];show dc _ _ (m+1) 0++dc _ _ (m+1) (0+2 ^ m)=_;congr 1
 ·refine nj _ _ _ _ (fun q=>?_);have:=j.cx (0+2 ^ (m+1)*(q:Int));rw[sQ,if_neg (by simp)]at this;exact this
 ·refine nj _ _ _ _ (fun q=>?_);have:=j.cx (0+2 ^ m+2 ^ (m+1)*(q:Int));rw[sP,if_pos rfl]at this;refine this.trans ?_;exact rh j.wf (aW.of j.ch) (fun s j=>sO m q s j)

theorem cP.hx {f:Int}{M:St}(h:M.wf){l:Int}{lo hi e:Edge}(A:cP f M l lo hi e):bQ M (af M f e l)=0∧bN M (af M f e l)=M∧bK M (af M f e l)=lo∧bf M f (af M f e l)=hi:=by
 rcases A.eb with q|⟨j,q,E,t,z⟩
 ·rw[q];exact⟨rfl,rfl,rfl,rfl⟩
 ·rw[q];obtain⟨a,b,c⟩:=jt h E
  have s:aX M 0 j=lo:=by
   rw[dR a,b];cases lo;simp only at t;rw[t]
  refine⟨a,c,s,?_⟩;show(if M.a7 j=0 then(if f=4 then aX M 0 j else j.hi)else⟨0,0⟩:Edge)=hi;rw[if_pos a,z,s]

theorem az.cx {f:Int}{M:St}(t:M.wf)(I:1≤f∧f≤5):∀(k:Nat) (ts:List Bool) (l:Int) (e:Edge),az f M k ts l e→l+(k:Int)=M.n→0≤l→cz M f e l=ts:=by
 intro k;induction k with
 |zero=>
  intro ts l e h q j;obtain⟨b,rfl,rfl⟩:=h;cases b with
  |false=>
   rw[ni (show(bV f false l).to=0 from rfl),show(M.n-l).toNat=0 by omega];rfl
  |true=>exact qR (by unfold bV;rw[if_pos rfl];split<;>(show(1:Int)≠0;decide)) (by omega)
 |succ k z=>
  intro ts l e h q j;obtain⟨I,lo,hi,A,E,s⟩:=h;push_cast at q;obtain⟨I,J,K,L⟩:=s.hx t;have q:=fB t s.leads (by omega) I;rw[J,K,L]at q;rw[qW q j (by omega),z _ _ _ A (by omega) (by omega),z _ _ _ E (by omega) (by omega),List.take_append_drop]

def St.bx (M:St):St:={ M with room:=1048576 }

theorem St.wf.bx {M:St}(h:M.wf):M.bx.wf:=⟨h.n0,h.br,h.gone,h.ga,h.cS,h.b2,h.g2,by show(0:Int)≤1048576;omega,by show(1048576:Int)≤1048576;omega,by have:=h.c6;have:=h.gb;show M.len≤1048576;omega⟩

theorem au.bx (M:St):au M M.bx:=⟨rfl,fun _ _ h=>h⟩

theorem au.g7 (M:St):au M.bx M:=⟨rfl,fun _ _ h=>h⟩

theorem zc {M M':St}(j:au M M')(h:M.wf){f:Int}{e:Edge}{l:Int}(q:M.leads f e l=true)(z:ba M' f e l=true):ba M f e l=true:=by
 refine cu.2 ⟨q,fun x t=>?_⟩;have s:=(cu.1 z).2 x (yX j t);cases q:look M.cs x with
 |none=>exact absurd q t.some
 |some r=>
  rw[j.sub _ _ q]at s;show aR M f r=false;rw[←jQ j h q];exact s

theorem kS {M M':St}(j:au M M')(h:M.wf){f:Int}{e:Edge}{l:Int}(s:M.leads f e l=true)(t:bE M' f e l):bE M f e l:=fun q=>zc j h s (t q)

def fH (M:St)(f a:Int):Prop:=f=3∨f=4∨f=5→eI M f a

theorem kT {M:St}{f:Int}{e:Edge}{l:Int}(q:M.leads f e l=true):bE M f e l↔fH M f e.to:=
 ⟨fun h j=>(cu.1 (h j)).2,fun h j=>cu.2 ⟨q,h j⟩⟩

theorem jP {f:Int}{M M':St}(h:M.wf){l:Int}{e lo hi:Edge}(am:M.leads f e l=true)(cf:0≤l)(b5:l<M.n)(X:bQ M (af M f e l)=0)(b6:bE M f e l)
  (L:M'=bN M (af M f e l)) (O:lo=bK M (af M f e l)) (N:hi=bf M f (af M f e l)) :
  cP f M' l lo hi e∧bE M' f lo (l+1)∧bE M' f hi (l+1):=by
 have z:=fB h am b5 X
 rw[←L,←O,←N]at z
 obtain⟨b8,a7⟩:=aU.1 am
 obtain⟨b5,cf,cg,ch,ci,cj,cd,b4⟩:=bj.1 b8
 have av:=(kT am).1 b6
 have br:f=1∨f=2∨f=3∨f=4∨f=5:=by omega
 have b5:=z.ext.n
 have ca:=rq z.ext am
 have I:¬(l<0∨M'.n≤l):=by omega
 have E:¬(M'.leads f lo (l+1)=false∨M'.leads f hi (l+1)=false):=by rw[z.cl,z.ch];simp
 have b7:=z.ext.leads am
 suffices b9:(aj f M' l lo hi=.inl (e,0)∨∃r,aj f M' l lo hi=.inr r∧look M'.cs e.to=some r∧e.tag=dd f r) ∧
   (af M f e l=.inl (lo,hi,0)∨∃q,af M f e l=.inr q∧look M'.cs lo.to=some q∧lo.tag=0∧hi=(if f=4 then lo else q.hi))∧fH M' f lo.to∧fH M' f hi.to by
  obtain⟨b5,b6,b8,cf⟩:=b9
  exact⟨⟨b5,by rw[ca];exact b6,b7,z.cl,z.ch⟩,(kT z.cl).2 b8,(kT z.ch).2 cf⟩
 have cb:fH M' f 0:=fun _=>mD (dM (by decide))
 -- no node at the level
 have bx:∀(_:look M.cs e.to=none∨∃r,look M.cs e.to=some r∧l<r.I) (_:¬(f=5∧(e.to=0∨l<e.tag))),af M f e l=.inl (aF f l e) →
   (aj f M' l lo hi=.inl (e,0)∨∃r,aj f M' l lo hi=.inr r∧look M'.cs e.to=some r∧e.tag=dd f r) ∧
   (af M f e l=.inl (lo,hi,0)∨∃q,af M f e l=.inr q∧look M'.cs lo.to=some q∧lo.tag=0∧hi=(if f=4 then lo else q.hi))∧fH M' f lo.to∧fH M' f hi.to:=by
  intro t a6 U
  rw[U]at L O N ⊢
  have a5:M'=M:=L
  have Z:lo=(aF f l e).1:=O
  have Y:hi=(aF f l e).2.1:=N
  have b2:lo.to=e.to:=by
   rw[Z];unfold aF;split;·rfl
   ·split<;>rfl
  have bt:fH M' f lo.to:=by rw[b2,a5];exact av
  subst a5
  refine⟨.inl ?_,.inl ?_,bt,?_⟩
  ·rcases br with rfl|rfl|rfl|rfl|rfl
   ·obtain rfl:lo=e:=Z;obtain rfl:hi=lo:=Y;rw[eV];unfold ak bT;rw[if_neg I,if_neg E,if_pos rfl]
   ·obtain rfl:lo=e:=Z;obtain rfl:hi=⟨0,0⟩:=Y;rw[eW];unfold ak bX;rw[if_neg I,if_neg E,if_pos rfl]
   ·obtain rfl:lo=e:=Z;obtain rfl:hi=lo:=Y;rw[fL];unfold ak aS;rw[if_neg I,if_neg E,if_pos rfl]
   ·obtain rfl:lo=e:=Z;obtain rfl:hi=⟨0,0⟩:=Y;rw[fM];unfold ak aV;rw[if_neg I,if_neg E,if_pos rfl]
   ·have a':e.to≠0:=fun j=>a6 ⟨rfl,.inl j⟩
    have b0:e.tag=l:=by
     have:¬l<e.tag:=fun j=>a6 ⟨rfl,.inr j⟩;have:=b4 rfl a';omega
    obtain rfl:lo=⟨l+1,e.to⟩:=Z;obtain rfl:hi=⟨0,0⟩:=Y;rw[fu];unfold bl;rw[if_neg I,if_neg E,if_neg (fun j=>a' (congrArg Edge.to j)),if_pos ⟨rfl,rfl⟩];cases e;simp only at b0;rw[b0]
  ·rw[Z,Y]
   have:(aF f l e).2.2=0:=by
    unfold aF;split;·rfl
    ·split<;>rfl
   rw[←this]
  ·have:hi.to=e.to∨hi.to=0:=by
    rw[Y];unfold aF;split;·exact .inl rfl
    ·split<;>exact .inr rfl
   rcases this with j|j;·rw[j,←b2];exact bt
   ·rw[j];exact cb
 obtain⟨Y,U⟩:∃Y,Y=af M f e l:=⟨_,rfl⟩
 have A:=U
 unfold af at A
 rw[if_neg (by omega),if_neg (by rw[am];simp)]at A
 split at A
 ·rename_i ad;obtain⟨rfl,ad⟩:=ad;rw[←U,A]at L O N ⊢;obtain rfl:M'=M:=L;obtain rfl:lo=e:=O;obtain rfl:hi=lo:=N;refine⟨.inl ?_,.inl rfl,av,av⟩;rw[fu];unfold bl;rw[if_neg I,if_neg E,if_pos rfl]
 ·rename_i ad;cases t:look M.cs e.to with
  |none=>
   rw[t]at A;exact bx (.inl t) ad (U ▸ A)
  |some r=>
   rw[t]at A;simp only[]at A;have g:=h.b7 t;have Y:=g.tb;have Y:=g.bn
   have J:r.ad=f∧l≤r.I∧e.tag≤r.I:=by
    rcases a7 with a7|⟨ce,a,b,c,d⟩;·rw[dM a7]at t;cases t
    ·rw[t]at a;cases a;exact⟨b,c,d⟩
   obtain⟨J,Y,Z⟩:=J;by_cases Y:l<r.I
   ·rw[if_pos Y]at A;exact bx (.inr ⟨r,t,Y⟩) ad (U ▸ A)
   ·rw[if_neg Y]at A;have a1:r.I=l:=(by omega);have bs:=z.ext.sub _ _ t
    have a8:(f=3∨f=4∨f=5)→aR M' f r=false:=fun j=>by
     rw[jQ z.ext h t];have:=av j e.to (Reaches.root (by simp) (by rw[t];simp));rw[t]at this;exact this
    have a2:fH M' f r.lo.to∧fH M' f r.hi.to:=by
     refine⟨fun j=>?_,fun j=>?_⟩;·exact jF z.ext h (jz g.lo) (kM (av j) t).1
     ·exact jF z.ext h (jz g.hi) (kM (av j) t).2
    have b1:f≠5→e.tag=0:=fun j=>cd (.inl j);split at A
    ·rename_i be;obtain⟨bn,bv⟩:=be;have bp:M.bp ⟨r.ad,r.I+1,r.J,r.lo,r.hi⟩=false:=kR g h.br (by omega) (by rw[J];exact bn) bv;obtain⟨q,aw⟩:∃q:Rec,q=⟨r.ad,r.I+1,r.J,r.lo,r.hi⟩:=⟨_,rfl⟩;rw[←aw]at A bp;rw[←U,A]at L O N X ⊢;change M.a7 q=0 at X;obtain⟨t,Y,Z,am,av,bt⟩:=iK h bp X;have a5:M'=M.a6 q:=L;have a4:lo=⟨0,M.bg q⟩:=by rw[O];exact dR X
     have K:hi=if f=4 then lo else r.hi:=by
      rw[N];show(if M.a7 q=0 then(if f=4 then aX M 0 q else q.hi)else⟨0,0⟩:Edge)=_;rw[if_pos X,dR X,a4,aw]
     have T:look M'.cs lo.to=some q:=(by rw[a5,a4];exact t);have bg:q.I=l+1:=(by rw[aw];show r.I+1=_;omega);have bi:q.J=r.J:=(by rw[aw]);have bb:q.lo=r.lo:=(by rw[aw]);have a3:q.hi=r.hi:=by rw[aw]
     have bw:fH M' f lo.to:=fun j=>by
      refine pT T ?_ (by rw[bb];exact a2.1 j) (by rw[a3];exact a2.2 j);rw[←a8 j];have ab:¬f=5:=(by omega);unfold aR;rw[if_neg ab,if_neg ab,bi,bb,a3]
     refine⟨.inr ⟨r,?_,bs,by rw[b1 (by omega)];unfold dd;rw[if_neg (by omega)]⟩,.inr ⟨q,rfl,T,by rw[a4],by rw[K,a3]⟩,bw,?_⟩
     ·rcases bn with rfl|rfl
      ·rw[if_neg (by omega)]at K;rw[fL];unfold ak aS;rw[if_neg I,if_neg E,if_neg (fun j=>?_),T]
       ·simp only[];rw[if_pos bg,if_pos (by rw[a3,K])];rw[bi,bb,K];exact congrArg _ (by cases r;simp only at J a1 ⊢;rw[J,a1])
       ·rw[K]at j;rw[j]at T;rcases(aU.1 (z.ext.leads g.hi)).2 with c|⟨ce,a,b,c,_⟩;·rw[dM c]at T;cases T
        ·rw[T]at a;have t:=Option.some.inj a;rw[←t,bg]at c;exact absurd bv (by have:=g.tb;intro _;clear a7;omega)
      ·rw[if_pos rfl]at K;rw[fM];unfold ak aV;rw[if_neg I,if_neg E,if_neg (by rw[K,a4];show¬M.bg q=0;omega),T];simp only[];rw[if_pos K.symm,if_pos bg,bi,bb,a3];exact congrArg _ (by cases r;simp only at J a1 ⊢;rw[J,a1])
     ·rw[K];split;·exact bw
      ·exact a2.2
    ·rename_i be
     have bq:r.J=r.I:=by
      rcases g.chain with W|W;·exact W.symm
      ·unfold eQ at W;simp only[Bool.or_eq_true,beq_iff_eq]at W;by_cases q:r.J=r.I;·exact q
       ·exact absurd ⟨by omega,q⟩ be
     rw[←U,A]at L O N ⊢;obtain rfl:M'=M:=L;obtain rfl:lo=r.lo:=O;obtain rfl:hi=r.hi:=N;have S:(⟨f,l,l,r.lo,r.hi⟩:Rec)=r:=(by cases r;simp only at J a1 bq ⊢;rw[J,bq,a1]);refine⟨.inr ⟨r,?_,bs,?_⟩,.inl rfl,a2.1,a2.2⟩
     ·rcases br with rfl|rfl|rfl|rfl|rfl
      ·rw[eV];unfold ak bT;rw[if_neg I,if_neg E,if_neg (g.apart (by omega) (by omega)),S]
      ·rw[eW];unfold ak bX;rw[if_neg I,if_neg E,if_neg (g.zero (.inl J)),S]
      ·have s:=a8 (.inl rfl);unfold aR at s;rw[if_neg (by omega)]at s;rw[fL];unfold ak aS;rw[if_neg I,if_neg E,if_neg (g.apart (by omega) (by omega))];cases W:look M'.cs r.lo.to with
       |none=>simp only[];rw[S]
       |some x=>
        rw[W]at s;simp only[]at s ⊢;rw[if_neg (by omega)]at s;split
        ·rename_i b3;rw[decide_eq_true (show x.I=r.J+1 by omega),Bool.true_and]at s;rw[if_neg (of_decide_eq_false s),S]
        ·rw[S]
      ·have s:=a8 (.inr (.inl rfl));unfold aR at s;rw[if_neg (by omega)]at s;rw[fM];unfold ak aV;rw[if_neg I,if_neg E,if_neg (g.zero (.inr J))];cases W:look M'.cs r.lo.to with
       |none=>simp only[];rw[S]
       |some x=>
        rw[W]at s;simp only[if_true]at s ⊢;split
        ·rename_i b3;rw[decide_eq_true b3,Bool.and_true]at s;have q:=of_decide_eq_false s;rw[if_neg (by omega),S]
        ·rw[S]
      ·have s:=a8 (.inr (.inr rfl));unfold aR at s;rw[if_pos rfl]at s;rw[fu];unfold bl;rw[if_neg I,if_neg E,if_neg (g.apart (by omega) (by omega)),if_neg (fun j=>?_),S];rw[decide_eq_true j.1,decide_eq_true (by rw[j.2];omega)]at s;cases s
     ·by_cases ab:f=5
      ·subst ab;have a6:¬(e.to=0∨l<e.tag):=fun j=>ad ⟨rfl,j⟩;have a':e.to≠0:=fun j=>a6 (.inl j);have:=b4 rfl a';unfold dd;rw[if_pos rfl];omega
      ·rw[b1 ab];unfold dd;rw[if_neg ab]

def nU (g:Int)(M:St)(l:Int)(lo hi:Edge):Prop:=
 (bS M (aj g M l lo hi)=0∧cP g (aM M (aj g M l lo hi)) l lo hi (aE g M (aj g M l lo hi))∧de M (aM M (aj g M l lo hi)) 1∧bE (aM M (aj g M l lo hi)) g (aE g M (aj g M l lo hi)) l) ∨
 (bS M (aj g M l lo hi)=6∧aM M (aj g M l lo hi)=M∧aE g M (aj g M l lo hi)=⟨0,0⟩∧M.room≤M.len)

theorem xe {g:Int}{M:St}(h:M.wf){l:Int}{lo hi:Edge}(K:1≤g∧g≤5)(ab:0≤l)(ad:l<M.n)(a1:M.len<1048576)(X:M.leads g lo (l+1)=true)(Y:M.leads g hi (l+1)=true)
  (a2:bE M g lo (l+1)) (av:bE M g hi (l+1)):nU g M l lo hi:=by
 have E:=au.bx M
 have a3:=pE h.bx K ab ad a1 (E.leads X) (E.leads Y) (dq E h a2) (dq E h av)
 have Z:aj g M.bx l lo hi=aj g M l lo hi:=rfl
 obtain⟨q,z,I,A⟩:=a3
 rw[Z]at q z I A
 unfold nU
 cases U:aj g M l lo hi with
 |inl x=>
  rw[U]at q z I A;have N:aE g M.bx (.inl x)=aE g M (.inl x):=by unfold aE;split<;>rfl
  rw[N]at z A;exact .inl ⟨q,z.ext (au.g7 M) K,⟨au.refl _,h,by show M.len≤M.len+1;omega,rfl⟩,dq (au.g7 M) h.bx A⟩
 |inr r=>
  rw[U]at q z I A;change M.bx.a7 r=0 at q;have L:M.bx.b3 r=M.b3 r:=rfl;have J:M.bx.bp r=M.bp r:=rfl;by_cases j:M.a7 r=0
  ·left
   have hid:M.bx.bg r=M.bg r:=by
    unfold St.a7 at q j;unfold St.bg;rw[L]at q ⊢;cases hi:M.b3 r with
    |some id=>rfl
    |none=>
     rw[hi]at q j;simp only[]at q j ⊢
     have s:M.bp r=false:=by
      cases s:M.bp r with
      |false=>rfl
      |true=>rw[s]at j;cases j
     rw[J,s]at q ⊢;rw[s]at j;rw[if_neg (by simp)]at q j;simp only[Bool.false_eq_true,if_false];have O:¬M.room≤M.len:=fun t=>(by rw[if_pos t]at j;cases j);have S:¬M.bx.room≤M.bx.len:=fun t=>(by rw[if_pos t]at q;cases q);rw[if_neg O,if_neg S];rfl
   have W:(M.bx.a6 r).cs=(M.a6 r).cs∧(M.bx.a6 r).n=(M.a6 r).n:=by
    unfold St.a7 at q j;unfold St.a6;rw[L]at q ⊢;cases hi:M.b3 r with
    |some id=>exact⟨rfl,rfl⟩
    |none=>
     rw[hi]at q j;simp only[]at q j ⊢
     have s:M.bp r=false:=by
      cases s:M.bp r with
      |false=>rfl
      |true=>rw[s]at j;cases j
     rw[J,s]at q ⊢;rw[s]at j;rw[if_neg (by simp)]at q j;simp only[Bool.false_eq_true,if_false];have O:¬M.room≤M.len:=fun t=>(by rw[if_pos t]at j;cases j);have S:¬M.bx.room≤M.bx.len:=fun t=>(by rw[if_pos t]at q;cases q);rw[if_neg O,if_neg S];exact⟨rfl,rfl⟩
   have T:au (M.bx.a6 r) (M.a6 r):=⟨W.2.symm,fun _ _ t=>by rw[←W.1];exact t⟩
   have N:aE g M.bx (.inr r)=aE g M (.inr r):=by
    unfold aE;split
    ·show aX M.bx r.I r=aX M r.I r;rw[dR q,dR j,hid]
    ·show aX M.bx 0 r=aX M 0 r;rw[dR q,dR j,hid]
   rw[N]at z A;have a4:(M.bx.a6 r).wf:=I.wf
   have am:de M (M.a6 r) 1:=by
    cases s:M.bp r with
    |false=>
     obtain⟨O,t,E,S,I,N⟩:=iK h s j;exact⟨t,E,I,N⟩
    |true=>
     have aw:∃id,M.b3 r=some id:=by
      unfold St.a7 at j;cases hi:M.b3 r with
      |some id=>exact⟨id,rfl⟩
      |none=>rw[hi]at j;simp only[]at j;rw[s,if_pos rfl]at j;cases j
     obtain⟨id,hi⟩:=aw;have:=(jt h ((jx h.b2 r id).2 hi)).2.2;rw[this];exact de.refl h (by decide)
   exact⟨j,z.ext T K,am,dq T a4 A⟩
  ·right
   have s:M.bp r=false:=by
    cases s:M.bp r with
    |false=>rfl
    |true=>
     exfalso;unfold St.a7 at q j;rw[L,J,s]at q;cases hi:M.b3 r with
     |some id=>rw[hi]at j;exact j rfl
     |none=>rw[hi]at q;simp at q
   obtain⟨q,t,z⟩:=kh s j;refine⟨q,t,?_,z⟩;unfold aE;split;·exact iL j
   ·exact iL j

theorem pg {g:Int}{M:St}(h:M.wf)(E:1≤g∧g≤5):∀(k:Nat) (l:Int),0≤l→l+(k:Int)=M.n→az g M k (List.replicate (2 ^ k) false) l ⟨0,0⟩:=by
 have O:=h.n0;have S:=h.br
 have I:∀l:Int,0≤l→l≤M.n→M.leads g ⟨0,0⟩ l=true:=fun l t K=>
  aU.2 ⟨bj.2 ⟨E.1,E.2,O,S,t,K,fun _=>rfl,fun _ j=>absurd rfl j⟩,.inl (by show(0:Int)<2;omega)⟩
 intro k;induction k with
 |zero=>intro l _ _;exact⟨false,rfl,rfl⟩
 |succ k K=>
  intro l t E;push_cast at E;have j:=K (l+1) (by omega) (by omega);have E:2 ^ (k+1)=2 ^ k+2 ^ k:=by rw[Nat.pow_succ];omega
  have T:(List.replicate (2 ^ (k+1)) false).take (2 ^ k)=List.replicate (2 ^ k) false:=by rw[List.take_replicate,E,Nat.min_eq_left (Nat.le_add_right _ _)]
  have L:(List.replicate (2 ^ (k+1)) false).drop (2 ^ k)=List.replicate (2 ^ k) false:=by rw[List.drop_replicate,E,Nat.add_sub_cancel]
  have J:=I l t (by omega);have A:=I (l+1) (by omega) (by omega);refine⟨by simp,⟨0,0⟩,⟨0,0⟩,by rw[T];exact j,by rw[L];exact j,⟨.inl ?_,.inl ?_,J,A,A⟩⟩
  ·have s:¬(l<0∨M.n≤l):=(by omega);have q:∀f:Int,f=g→¬(M.leads f ⟨0,0⟩ (l+1)=false∨M.leads f ⟨0,0⟩ (l+1)=false):=fun f t=>(by rw[t,A];simp);have N:g=1∨g=2∨g=3∨g=4∨g=5:=(by omega);rcases N with rfl|rfl|rfl|rfl|rfl;·rw[eV];unfold ak bT;rw[if_neg s,if_neg (q _ rfl),if_pos rfl]
   ·rw[eW];unfold ak bX;rw[if_neg s,if_neg (q _ rfl),if_pos rfl]
   ·rw[fL];unfold ak aS;rw[if_neg s,if_neg (q _ rfl),if_pos rfl]
   ·rw[fM];unfold ak aV;rw[if_neg s,if_neg (q _ rfl),if_pos rfl]
   ·rw[fu];unfold bl;rw[if_neg s,if_neg (q _ rfl),if_pos rfl]
  ·unfold af;rw[if_neg (by omega),if_neg (by rw[J];simp)];by_cases z:g=5;·rw[if_pos ⟨z,.inl rfl⟩]
   ·rw[if_neg (fun j=>z j.1),dM (by decide)];show Sum.inl (aF g l ⟨0,0⟩)=_;unfold aF;rw[if_neg z];split<;>rfl

structure nS (f g:Int)(M:St)(e:Edge)(l:Int)(x:Edge):Prop where
 hT:az g M (M.n-l).toNat (cz M f e l) l x
 right:bE M g x l
 ok:x.ok
 own:bE M f e l→az f M (M.n-l).toNat (cz M f e l) l e

section
variable {f g:Int}{M:St}{V:List (Edge×Int)}{e:Edge}{l:Int}

theorem vd (z:M.wf)(A:1≤f∧f≤5)(q:1≤g∧g≤5)(I:M.leads f e l=true)(s:0≤l)(j:e.to=0):nS f g M e l ⟨0,0⟩:=by
 obtain⟨K,U⟩:=aU.1 I;obtain⟨U,W,N,O,S,T,I,X⟩:=bj.1 K
 have L:e=⟨0,0⟩:=by
  have:=I (.inr j);cases e;simp only at j this;rw[j,this]
 have t:l+((M.n-l).toNat:Int)=M.n:=by omega
 have J:M.leads g ⟨0,0⟩ l=true:=aU.2 ⟨bj.2 ⟨q.1,q.2,N,O,S,T,fun _=>rfl,fun _ E=>absurd rfl E⟩,.inl (by show(0:Int)<2;omega)⟩;refine⟨by rw[ni j];exact pg z q _ l s t,(kT J).2 (fun _=>mD (dM (by decide))),dL,fun _=>by rw[ni j,L];exact pg z A _ l s t⟩

theorem u' (s:M.wf)(T:1≤f∧f≤5)(U:1≤g∧g≤5)(K:e.ok)(L:M.leads f e l=true)(q:l=M.n)(I:e.to≠0):nS f g M e l (bV g true M.n):=by
 obtain⟨N,A⟩:=aU.1 L;obtain⟨L,T,U,W,X,Y,O,S⟩:=bj.1 N
 have j:e.to=1:=by
  have:=K.2.1;rcases A with A|⟨r,a,b,c,d⟩;·omega
  ·have g:=s.b7 a;have:=g.tb;have:=g.bn;omega
 have J:e=bV f true M.n:=by
  unfold bV;rw[if_pos rfl];split
  ·rename_i t;have:=S t I;cases e;simp only at j this;rw[j];congr 1
   omega
  ·rename_i t;have:=O (.inl t);cases e;simp only at j this;rw[j,this]
 have E:cz M f e l=[true]:=qR I q.symm;have z:(M.n-l).toNat=0:=by omega
 refine⟨?_,?_,oO (by have:=s.n0;omega) (by have:=s.br;omega),fun _=>?_⟩;·rw[E,z,q];exact⟨true,rfl,rfl⟩
 ·rw[q];exact oP s
 ·rw[E,z,q];exact⟨true,rfl,J⟩

end

end Go.Proofs.YtafkamlhimkbmaaGreat
