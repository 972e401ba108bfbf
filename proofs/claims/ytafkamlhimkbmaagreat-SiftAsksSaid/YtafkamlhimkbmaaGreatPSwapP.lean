/-
  A diagram's text behind a sweep, and behind nodes that came in.
-/
import Derived.Test.YtafkamlhimkbmaaGreatPKB
import Derived.Test.YtafkamlhimkbmaaGreatPSSweep
import Derived.Maps.Views
import Derived.Maps.OwnSet
import Derived.Maps.Keyed
import Derived.DeepKeys4
namespace Go.Proofs.YtafkamlhimkbmaaGreat
set_option maxRecDepth 1000000
set_option maxHeartbeats 8000000
set_option linter.unusedSimpArgs false
set_option linter.unusedVariables false
open Go.RowKit
theorem D7 {f:Int}{M M':St}(q:dH f M){roots:List Int}(B:∀id,Reaches M.cs roots id→look M'.cs id=look M.cs id) :
  ∀(n:Nat) (e:Edge) (l:Int),At f M e l n→(look M.cs e.to≠none→Reaches M.cs roots e.to)→bA f M' n e=bA f M n e:=by
 intro n
 induction n with
 |zero=>intro e l h;obtain⟨m,s⟩:=h.pos q;omega
 |succ n A=>
  intro e l h J;rcases h.cases q with⟨q,s⟩|⟨r,j,_,_,_,_,_,_,_,_,I,E⟩
  ·rw[iP q s,iP q s]
  ·have z:=J (by rw[j];simp);have q:look M'.cs e.to=some r:=(by rw[B _ z,j]);have t:=Reaches.closed M.cs roots e.to r z j;rw[iQ j,iQ q];unfold ey;rw[A _ _ I t.1,A _ _ E t.2]
theorem D6 {f:Int}{M M':St}{n:Nat}{e:Edge}(h:bA f M' n e=bA f M n e):bR f M' n e=bR f M n e:=by
 apply ByteArray.ext;exact Array.toList_inj.1 h
theorem ak.gh {F:Nat→Prop}{w:World}{sb:Nat}{M:St}(h:ak F w sb M)(f:Int)(q:M.n≤9):dH f M:=⟨h.wf,fun _ _ j=>⟨(h.b0 j).lo.2.1,(h.b0 j).hi.2.1⟩,q⟩
def bo (M:St)(f l:Int)(e:Edge):Prop:=l≤M.n∧(e.to<2∨∃r,look M.cs e.to=some r∧r.al=f∧l≤r.I)
theorem bo.of {M:St}{f l:Int}{e:Edge}(h:M.leads f e l=true):bo M f l e:=by
 obtain⟨j,q⟩:=a9.1 h;obtain⟨t,z,A,B,E,s,I,J⟩:=bK.1 j;exact⟨s,q.imp id (fun⟨r,a,b,c,_⟩=>⟨r,a,b,c⟩)⟩
theorem bo.next {M:St}{f l:Int}{e:Edge}(q:bo M f l e)(s:l<M.n):(look M.cs e.to=none∧bo M f (l+1) e)∨∃r,look M.cs e.to=some r∧r.al=f∧((l<r.I∧bo M f (l+1) e)∨l=r.I):=by
 obtain⟨s,j⟩:=q;rcases j with j|⟨r,a,b,c⟩;·exact .inl ⟨fh j,by omega,.inl j⟩
 ·right;refine⟨r,a,b,?_⟩;by_cases j:l<r.I;·exact .inl ⟨j,by omega,.inr ⟨r,a,b,by omega⟩⟩
  ·exact .inr (by omega)
theorem gP {M:St}{f x l:Int}{e:Edge}(j:e.to=0):∀K,hS M f x K l e=false:=by
 intro K;cases K with
 |zero=>show decide (e.to≠0)=false;simp[j]
 |succ K=>show(if e.to=0 then false else _)=false;rw[ah j]
theorem gO {M:St}{f x l:Int}{e:Edge}(j:e.to≠0)(q:M.n≤l):∀K,hS M f x K l e=true:=by
 intro K;cases K with
 |zero=>exact bc j
 |succ K=>show(if e.to=0 then false else if M.n≤l then true else _)=true;rw[ag j,ah q]
theorem eY {M:St}{f x l:Int}{e:Edge}{K:Nat}(s:e.to≠0)(t:l<M.n)(j:look M.cs e.to=none∨∃r,look M.cs e.to=some r∧l<r.I):hS M f x (K+1) l e=(if aP f e l&&ax x l then false else hS M f x K (l+1) e):=by
 show(if e.to=0 then false else if M.n≤l then true else match look M.cs e.to with|none=>_|some r=>_)=_;rw[ag s,ag (by omega)];rcases j with j|⟨r,j,q⟩;·rw[j]
 ·rw[j];simp only[];rw[ah q]
theorem iG {M:St}{f x l:Int}{e:Edge}{r:Rec}{K:Nat}(s:l<M.n)(j:look M.cs e.to=some r)(q:¬l<r.I):hS M f x (K+1) l e=hS M f x K (r.J+1) (aT x r):=by
 have s:e.to≠0:=by have:=(ck j).1;omega
 show(if e.to=0 then false else if M.n≤l then true else match look M.cs e.to with|none=>_|some r=>_)=_;rw[ag s,ag (by omega),j];simp only[];rw[ag q]
theorem m7 {M:St}(h:M.wf){f x:Int}{e:Edge}{r:Rec}(q:look M.cs e.to=some r)(j:r.al=f):bo M f (r.J+1) (aT x r):=by
 have:=px h q (x:=x);rw[j]at this;exact bo.of this
theorem ye {M:St}(h:M.wf){f x:Int}:∀(K q:Nat) (l:Int) (e:Edge),bo M f l e→M.n-l≤(K:Int)→M.n-l≤(q:Int)→hS M f x K l e=hS M f x q l e:=by
 intro K;induction K with
 |zero=>
  intro q l e B s t;by_cases j:e.to=0;·rw[gP j,gP j]
  ·rw[gO j (by omega),gO j (by omega)]
 |succ K A=>
  intro q l e B s t;by_cases j:e.to=0;·rw[gP j,gP j]
  ·by_cases z:M.n≤l;·rw[gO j z,gO j z]
   ·cases q with
    |zero=>omega
    |succ q=>
     push_cast at s t;rcases B.next (by omega)with⟨s,z⟩|⟨r,s,B,⟨t,z⟩|t⟩
     ·rw[eY j (by omega) (.inl s),eY j (by omega) (.inl s),A q (l+1) e z (by omega) (by omega)]
     ·rw[eY j (by omega) (.inr ⟨r,s,t⟩),eY j (by omega) (.inr ⟨r,s,t⟩),A q (l+1) e z (by omega) (by omega)]
     ·have j:=(h.b6 s).tb;rw[iG (by omega) s (by omega),iG (by omega) s (by omega),A q _ _ (m7 h s B) (by omega) (by omega)]
theorem wP {x q:Int}:∀(n:Nat) (a:Int),(∀j,a≤j→ax x j=ax q j)→cw x a n=cw q a n:=by
 intro n;induction n with
 |zero=>intro a _;rfl
 |succ n t=>
  intro a s;show(!ax x a&&cw x (a+1) n)=(!ax q a&&cw q (a+1) n);rw[s a (Int.le_refl _),t (a+1) (fun j q=>s j (by omega))]
theorem yc {M:St}(h:M.wf){f x I:Int}:∀(K:Nat) (l:Int) (e:Edge),bo M f l e→(∀j,l≤j→ax x j=ax I j)→hS M f x K l e=hS M f I K l e:=by
 intro K;induction K with
 |zero=>intro l e _ _;rfl
 |succ K E=>
  intro l e B t;by_cases s:e.to=0;·rw[gP s,gP s]
  ·by_cases A:M.n≤l;·rw[gO s A,gO s A]
   ·rcases B.next (by omega)with⟨q,B⟩|⟨r,q,J,⟨A,B⟩|A⟩
    ·rw[eY s (by omega) (.inl q),eY s (by omega) (.inl q),t l (Int.le_refl _),E (l+1) e B (fun j z=>t j (by omega))]
    ·rw[eY s (by omega) (.inr ⟨r,q,A⟩),eY s (by omega) (.inr ⟨r,q,A⟩),t l (Int.le_refl _),E (l+1) e B (fun j z=>t j (by omega))]
    ·have s:=(h.b6 q).tb
     have L:aT x r=aT I r:=by
      unfold aT eJ;rw[wP _ r.I (fun j z=>t j (by omega)),t r.J (by omega)]
     rw[iG (by omega) q (by omega),iG (by omega) q (by omega),L,E _ _ (m7 h q J) (fun j z=>t j (by omega))]
theorem yd {M M':St}(h:M.wf)(z:aD M M'){f x:Int}:∀(K:Nat) (l:Int) (e:Edge),bo M f l e→hS M' f x K l e=hS M f x K l e:=by
 intro K;have L:=z.n;induction K with
 |zero=>intro l e _;rfl
 |succ K E=>
  intro l e I;by_cases q:e.to=0;·rw[gP q,gP q]
  ·by_cases L:M.n≤l;·rw[gO q L,gO q (by omega)]
   ·have N:=I;rcases I.next (by omega)with⟨j,B⟩|⟨r,j,J,⟨A,B⟩|A⟩
    ·have s:look M'.cs e.to=none:=by
      rcases N.2 with t|⟨r,t,_⟩;·exact fh t
      ·rw[j]at t;cases t
     rw[eY q (by omega) (.inl j),eY q (by omega) (.inl s),E (l+1) e B]
    ·have s:=z.sub _ _ j;rw[eY q (by omega) (.inr ⟨r,j,A⟩),eY q (by omega) (.inr ⟨r,s,A⟩),E (l+1) e B]
    ·have s:=z.sub _ _ j;rw[iG (by omega) j (by omega),iG (by omega) s (by omega),E _ _ (m7 h j J)]
theorem yg {M:St}{f x:Int}:∀(K:Nat) (l:Int) (e j:Edge),bo M f l e→e.to=j.to→(∀t,l≤t→aP f e t=aP f j t)→hS M f x K l e=hS M f x K l j:=by
 intro K;induction K with
 |zero=>intro l e j _ q _;show decide (e.to≠0)=decide (j.to≠0);rw[q]
 |succ K J=>
  intro l e j B q A;by_cases z:e.to=0;·rw[gP z,gP (q ▸ z)]
  ·have I:j.to≠0:=q ▸ z;by_cases s:M.n≤l;·rw[gO z s,gO I s]
   ·rcases B.next (by omega)with⟨s,E⟩|⟨r,s,L,⟨B,E⟩|B⟩
    ·rw[eY z (by omega) (.inl s),eY I (by omega) (.inl (q ▸ s)),A l (Int.le_refl _),J (l+1) e j E q (fun t L=>A t (by omega))]
    ·rw[eY z (by omega) (.inr ⟨r,s,B⟩),eY I (by omega) (.inr ⟨r,q ▸ s,B⟩),A l (Int.le_refl _),J (l+1) e j E q (fun t L=>A t (by omega))]
    ·rw[iG (by omega) s (by omega),iG (by omega) (q ▸ s) (by omega)]
def tv (M:St)(f x l:Int)(e:Edge):Bool:=hS M f x (M.n-l).toNat l e
theorem eL {M M':St}(h:M.wf)(j:aD M M'){f x l:Int}{e:Edge}(q:bo M f l e):tv M' f x l e=tv M f x l e:=by
 unfold tv;rw[j.n];exact yd h j _ l e q
theorem ud {M:St}(h:M.wf){f x q l:Int}{e:Edge}(t:bo M f l e)(s:∀j,l≤j→ax x j=ax q j):tv M f x l e=tv M f q l e:=yc h _ l e t s
theorem eB {M:St}{f x l:Int}{e:Edge}(j:e.to=0):tv M f x l e=false:=gP j _
theorem DJ {M:St}{f x l:Int}{e:Edge}(q:e.to≠0)(j:M.n≤l):tv M f x l e=true:=gO q j _
theorem jM {M:St}{f x l:Int}{e:Edge}(s:e.to≠0)(q:l<M.n)(j:look M.cs e.to=none∨∃r,look M.cs e.to=some r∧l<r.I):tv M f x l e=(if aP f e l&&ax x l then false else tv M f x (l+1) e):=by
 unfold tv;rw[show(M.n-l).toNat=(M.n-(l+1)).toNat+1 by omega];exact eY s q j
theorem kK {M:St}(h:M.wf){f x l:Int}{e:Edge}{r:Rec}(s:l<M.n)(j:look M.cs e.to=some r)(q:r.al=f)(t:¬l<r.I)(z:r.I=l):tv M f x l e=tv M f x (r.J+1) (aT x r):=by
 have z:=(h.b6 j).tb;unfold tv;rw[show(M.n-l).toNat=(M.n-(l+1)).toNat+1 by omega,iG s j t];exact ye h _ _ _ _ (m7 h j q) (by omega) (by omega)
theorem ui {M:St}{f x l:Int}{e j:Edge}(z:bo M f l e)(t:e.to=j.to)(s:∀q,l≤q→aP f e q=aP f j q):tv M f x l e=tv M f x l j:=yg _ l e j z t s
theorem ue {M:St}{f x:Int}{e:Edge}(j:f=3){b:Int}(t:b≤M.n)(q:e.to<2∨∃r,look M.cs e.to=some r∧b≤r.I):∀(d:Nat) (l:Int),l+(d:Int)=b→tv M f x l e=tv M f x b e:=by
 subst j;intro d;induction d with
 |zero=>intro l j;rw[show l=b by omega]
 |succ d s=>
  intro l j;push_cast at j;by_cases j:e.to=0;·rw[eB j,eB j]
  ·rw[jM j (by omega) (q.imp fh (fun⟨r,a,c⟩=>⟨r,a,by omega⟩)),show aP 3 e l=false from rfl,Bool.false_and,s (l+1) (by omega)];rfl
theorem j7 {M:St}(h:M.wf){r:Rec}(q:M.br r=false)(j:M.a' r=0) :
  look (M.a7 r).cs (M.bd r)=some r∧aD M (M.a7 r)∧(M.a7 r).wf∧2≤M.bd r∧(M.a7 r).len≤M.len+1∧(M.a7 r).room=M.room:=by
 cases hi:M.bD r with
 |some id=>
  have s:=(jf h.b3 r id).2 hi;obtain⟨a,b,c⟩:=k8 h s;rw[b,c];exact⟨s,aD.refl M,h,(ck s).1,by omega,rfl⟩
 |none=>
  have t:M.len<M.room:=by
   unfold St.a' at j;rw[hi]at j;simp only[]at j;rw[ag (by rw[q];simp)]at j;split at j;·cases j
   ·omega
  obtain⟨a,b,c,d,e,g⟩:=k7 h q t;have j:=oA h q t;exact⟨b,j.ext,j.wf,g,j.len,j.room⟩
theorem mg {M:St}{r:Rec}(s:M.br r=false)(j:M.a' r≠0):M.a' r=6∧M.a7 r=M∧M.room≤M.len:=by
 unfold St.a' at j ⊢;unfold St.a7;cases hi:M.bD r with
 |some id=>rw[hi]at j;exact absurd rfl j
 |none=>
  rw[hi]at j;simp only[]at j ⊢;rw[ag (by rw[s];simp)]at j ⊢;split at j
  ·rename_i q;rw[ah q,ag (by rw[s];simp),ah q];exact⟨rfl,rfl,q⟩
  ·exact absurd rfl j
structure jT (f:Int)(M:St)(l:Int)(e:Edge)(M':St)(lo hi:Edge):Prop where
 ext:aD M M'
 wf:M'.wf
 len:M'.len≤M.len+1
 room:M'.room=M.room
 cp:M'.leads f lo (l+1)=true
 cf:M'.leads f hi (l+1)=true
 cD:∀x,tv M f x l e=tv M' f x (l+1) (if ax x l then hi else lo)
theorem rK {M:St}{f l l':Int}{e:Edge}(h:M.leads f e l=true)(j:0≤l')(q:l'≤M.n):M.leads f ⟨0,0⟩ l'=true:=by
 obtain⟨t,z⟩:=a9.1 h;obtain⟨z,A,B,E,I,J,L,N⟩:=bK.1 t;exact a9.2 ⟨bK.2 ⟨z,A,B,E,j,q,fun _=>rfl,fun _ s=>absurd rfl s⟩,.inl (by show(0:Int)<2;omega)⟩
theorem uq {f:Int}{M:St}(h:M.wf){l:Int}{e:Edge}(A:M.leads f e l=true)(z:l<M.n)(j:look M.cs e.to=none∨∃r,look M.cs e.to=some r∧l<r.I)(L:¬(f=5∧(e.to=0∨l<e.tag))) :
  jT f M l e M (aN f l e).1 (aN f l e).2.1∧(aN f l e).2.2=0:=by
 have a1:=A
 obtain⟨ad,I⟩:=a9.1 A
 obtain⟨O,S,T,U,a1,a3,aw,a4⟩:=bK.1 ad
 have am:=bo.of A
 have av:bo M f (l+1) e:=by
  rcases am.next z with⟨_,q⟩|⟨r,B,_,⟨_,q⟩|q⟩
  ·exact q
  ·exact q
  ·rcases j with j|⟨a0,j,ab⟩;·rw[j]at B;cases B
   ·rw[j]at B;cases B;omega
 have E:e.to<2∨∃r,look M.cs e.to=some r∧r.al=f∧l+1≤r.I∧e.tag≤r.I:=by
  rcases I with I|⟨r,a,b,c,d⟩;·exact .inl I
  ·rcases j with j|⟨a0,j,ab⟩;·rw[j]at a;cases a
   ·rw[j]at a;cases a;exact .inr ⟨_,j,b,by omega,d⟩
 have J:=rK A (l':=l+1) (by omega) (by omega)
 have X:f=1∨f=2∨f=3∨f=4∨f=5:=by omega
 have plain:f≠5→M.leads f e (l+1)=true:=fun s=>a9.2 ⟨bK.2 ⟨O,S,T,U,by omega,by omega,aw,fun a=>absurd a s⟩,E⟩
 have free:(f=1∨f=3)→∀x,tv M f x l e=tv M f x (l+1) (if ax x l then e else e):=fun s x=>by
  rw[ite_self];by_cases t:e.to=0;·rw[eB t,eB t]
  ·rw[jM t z j];have:aP f e l=false:=by rcases s with rfl|rfl<;>rfl
   rw[this,Bool.false_and];rfl
 have zero:(f=2∨f=4)→∀x,tv M f x l e=tv M f x (l+1) (if ax x l then⟨0,0⟩else e):=fun s x=>by
  by_cases t:e.to=0
  ·rw[eB t];split;·rw[eB rfl]
   ·rw[eB t]
  ·rw[jM t z j];have:aP f e l=true:=by rcases s with rfl|rfl<;>rfl
   rw[this,Bool.true_and];cases W:ax x l with
   |true=>rw[ah rfl,ah rfl,eB rfl]
   |false=>rw[ag (by simp),ag (by simp)]
 unfold aN
 rcases X with rfl|rfl|rfl|rfl|rfl
 ·rw[ah (.inl rfl)];exact⟨⟨aD.refl _,h,by omega,rfl,plain (by omega),plain (by omega),free (.inl rfl)⟩,rfl⟩
 ·rw[ag (by omega),ag (by omega)];exact⟨⟨aD.refl _,h,by omega,rfl,plain (by omega),J,zero (.inl rfl)⟩,rfl⟩
 ·rw[ah (.inr rfl)];exact⟨⟨aD.refl _,h,by omega,rfl,plain (by omega),plain (by omega),free (.inr rfl)⟩,rfl⟩
 ·rw[ag (by omega),ag (by omega)];exact⟨⟨aD.refl _,h,by omega,rfl,plain (by omega),J,zero (.inr rfl)⟩,rfl⟩
 ·rw[ag (by omega),ah rfl];have t:e.to≠0:=fun s=>L ⟨rfl,.inl s⟩;have al:e.tag≤l:=by have:¬l<e.tag:=fun s=>L ⟨rfl,.inr s⟩;omega
  have Z:M.leads 5 ⟨l+1,e.to⟩ (l+1)=true:=by
   refine a9.2 ⟨bK.2 ⟨O,S,T,U,by omega,by omega,fun s=>absurd s (by simp[t]),fun _ _=>⟨Int.le_refl _,by show l+1≤M.n;omega⟩⟩,?_⟩;rcases E with E|⟨r,a,b,c,d⟩;·exact .inl E
   ·exact .inr ⟨r,a,b,c,c⟩
  refine⟨⟨aD.refl _,h,by omega,rfl,Z,J,fun x=>?_⟩,rfl⟩;rw[jM t z j];have:aP 5 e l=true:=by unfold aP;rw[bc al];rfl
  rw[this,Bool.true_and];cases W:ax x l with
  |true=>rw[ah rfl,ah rfl,eB rfl]
  |false=>
   rw[ag (by simp),ag (by simp)];refine ui av rfl (fun N Y=>?_);unfold aP;rw[bc (show e.tag≤N by omega),bc (show(⟨l+1,e.to⟩:Edge).tag≤N from Y)]
theorem gV {f:Int}{M:St}(h:M.wf){l:Int}{e:Edge}(L:M.leads f e l=true)(O:l<M.n)(t:cK M (aj M f e l)=0) :
  jT f M l e (cH M (aj M f e l)) (cz M (aj M f e l)) (bL M f (aj M f e l)):=by
 obtain⟨bd,E⟩:=a9.1 L
 obtain⟨a3,a4,bn,bp,bt,bv,a5,bq⟩:=bK.1 bd
 have bd:=bo.of L
 unfold aj at t ⊢
 rw[ag (by omega),ag (by rw[L];simp)]at t ⊢
 split at t
 ·rename_i q;rw[ah q];obtain⟨rfl,q⟩:=q;show jT 5 M l e M e e
  have ad:M.leads 5 e (l+1)=true:=by
   by_cases B:e.to=0
   ·have av:e.tag=0:=a5 (.inr B);have:e=⟨0,0⟩:=(by cases e;simp only at B av;rw[B,av]);rw[this];exact rK L (by omega) (by omega)
   ·have I:l<e.tag:=(by rcases q with q|q;exact absurd q B;exact q);have:=bq rfl B;refine a9.2 ⟨bK.2 ⟨a3,a4,bn,bp,by omega,by omega,a5,fun _ _=>by omega⟩,?_⟩;rcases E with E|⟨r,a,b,c,d⟩;·exact .inl E
    ·exact .inr ⟨r,a,b,by omega,d⟩
  refine⟨aD.refl _,h,by omega,rfl,ad,ad,fun x=>?_⟩;rw[ite_self];by_cases B:e.to=0;·rw[eB B,eB B]
  ·have I:l<e.tag:=by rcases q with q|q;exact absurd q B;exact q
   have A:look M.cs e.to=none∨∃r,look M.cs e.to=some r∧l<r.I:=by
    rcases E with E|⟨r,a,b,c,d⟩;·exact .inl (fh E)
    ·exact .inr ⟨r,a,by omega⟩
   rw[jM B O A];have:aP 5 e l=false:=(by unfold aP;rw[aY (show¬e.tag≤l by omega)];rfl);rw[this,Bool.false_and];rfl
 ·rename_i q;rw[ag q];cases A:look M.cs e.to with
  |none=>exact(uq h L O (.inl A) q).1
  |some r=>
   rw[A]at t;simp only[]at t ⊢;have g:=h.b6 A;have B:=g.tb;have B:=g.bn
   have z:r.al=f∧l≤r.I:=by
    rcases E with E|⟨a6,a,b,c,d⟩;·rw[fh E]at A;cases A
    ·rw[A]at a;cases a;exact⟨b,c⟩
   by_cases I:l<r.I
   ·rw[ah I];exact(uq h L O (.inr ⟨r,A,I⟩) q).1
   ·rw[ag I]at t ⊢;have J:r.I=l:=(by omega);obtain⟨z,_⟩:=z;split at t
    ·rename_i S;rw[ah S];obtain⟨Y,q⟩:=S;have Z:M.br ⟨r.al,r.I+1,r.J,r.lo,r.hi⟩=false:=mN g h.bw (by omega) (by rw[z];exact Y) q;obtain⟨j,s⟩:∃j:Rec,j=⟨r.al,r.I+1,r.J,r.lo,r.hi⟩:=⟨_,rfl⟩;rw[←s]at t Z ⊢;change M.a' j=0 at t;obtain⟨aw,N,a0,q,bf,bg⟩:=j7 h Z t;have q:cz M (.inr j)=⟨0,M.bd j⟩:=fB t
     have B:bL M f (.inr j)=if f=4 then⟨0,M.bd j⟩else r.hi:=by
      show(if M.a' j=0 then(if f=4 then bz M 0 j else j.hi)else⟨0,0⟩:Edge)=_;rw[ah t,fB t,s]
     rw[q,B];show jT f M l e (M.a7 j) _ _;have q:=N.n;have a':f≠5:=by omega
     have a1:(M.a7 j).leads f ⟨0,M.bd j⟩ (l+1)=true:=by
      refine a9.2 ⟨bK.2 ⟨a3,a4,by omega,by omega,by omega,by omega,fun _=>rfl,fun a=>absurd a a'⟩,.inr ⟨j,aw,by rw[s];exact z,by rw[s];show l+1≤r.I+1;omega,by rw[s];show(0:Int)≤r.I+1;omega⟩⟩
     have bi:(M.a7 j).leads f r.hi (l+1)=true:=by
      have:=N.leads g.hi;rw[z]at this;exact mq this (by omega) (by omega)
     have am:∀x,tv (M.a7 j) f x (l+1) ⟨0,M.bd j⟩=tv M f x (r.J+1) (aT x j):=fun x=>by
      have q:j.I=l+1:=(by rw[s];show r.I+1=_;omega);have t:j.J=r.J:=(by rw[s]);rw[kK a0 (by omega) aw (by rw[s];exact z) (by omega) q,t];refine eL h N ?_;unfold aT;split;·rw[s,←z];exact bo.of g.hi
      ·rw[s,←z];exact bo.of g.lo
     have bb:∀x,tv M f x l e=tv M f x (r.J+1) (aT x r):=fun x=>kK h O A z I J;refine⟨N,a0,bf,bg,a1,?_,fun x=>?_⟩
     ·split;·exact a1
      ·exact bi
     ·rw[bb x];rcases Y with a7|a8
      ·rw[ag (show¬f=4 by omega)]
       have al:eJ x r=(ax x l||eJ x j):=by
        unfold eJ;rw[ah (by omega),ah (by rw[s];show r.al=3;omega),s];show(!cw x r.I (r.J+1-r.I).toNat)=(ax x l||!cw x (r.I+1) (r.J+1-(r.I+1)).toNat);rw[show(r.J+1-r.I).toNat=(r.J+1-(r.I+1)).toNat+1 by omega];show(!(!ax x r.I&&cw x (r.I+1) _))=_;rw[J];cases ax x l<;>simp
       cases ab:ax x l with
       |true=>
        rw[ah rfl];have:aT x r=r.hi:=(by unfold aT;rw[al,ab];rfl);rw[this,←eL h N (by rw[←z];exact bo.of g.hi)];refine(ue a7 (by omega) ?_ (r.J-l).toNat (l+1) (by omega)).symm;rcases(a9.1 (N.leads g.hi)).2 with q|⟨a6,a,b,c,_⟩;·exact .inl q
        ·exact .inr ⟨a6,a,c⟩
       |false=>
        rw[ag (by simp),am x];have:aT x r=aT x j:=(by unfold aT;rw[al,ab,Bool.false_or,s]);rw[this]
      ·rw[ah a8,ite_self,am x]
       have:aT x r=aT x j:=by
        have br:eJ x r=ax x r.J:=(by unfold eJ;rw[ag (show¬r.al=3 by omega)]);have bs:eJ x j=ax x r.J:=(by unfold eJ;rw[ag (show¬j.al=3 by rw[s];show¬r.al=3;omega),s]);unfold aT;rw[br,bs,s]
       rw[this]
    ·rename_i S;rw[ag S];show jT f M l e M r.lo r.hi
     have T:r.J=r.I:=by
      rcases g.chain with U|U;·exact U.symm
      ·unfold fN at U;simp only[dS,beq_iff_eq]at U;by_cases j:r.J=r.I;·exact j
       ·exact absurd ⟨by omega,j⟩ S
     have X:=g.lo;have W:=g.hi;rw[z,T,J]at X W;refine⟨aD.refl _,h,by omega,rfl,X,W,fun x=>?_⟩;rw[kK h O A z I J,T,J]
     have be:eJ x r=ax x l:=by
      unfold eJ;split
      ·rw[T,J,show(l+1-l).toNat=1 by omega];show(!(!ax x l&&true))=_;simp
      ·rw[T,J]
     unfold aT;rw[be]
theorem mZ {f:Int}{M:St}(h:M.wf){l:Int}{e:Edge}(t:M.leads f e l=true)(E:l<M.n)(j:cK M (aj M f e l)≠0) :
  cK M (aj M f e l)=6∧cH M (aj M f e l)=M∧M.room≤M.len:=by
 obtain⟨A,s⟩:=a9.1 t
 obtain⟨E,I,J,L,N,O,S,T⟩:=bK.1 A
 have z:(aN f l e).2.2=0:=by
  unfold aN;split;·rfl
  ·split<;>rfl
 unfold aj at j ⊢
 rw[ag (by omega),ag (by rw[t];simp)]at j ⊢
 split at j
 ·exact absurd rfl j
 ·rename_i t;rw[ag t];cases q:look M.cs e.to with
  |none=>rw[q]at j;exact absurd z j
  |some r=>
   rw[q]at j;simp only[]at j ⊢;have g:=h.b6 q
   have B:r.al=f∧l≤r.I:=by
    rcases s with s|⟨t,a,b,c,d⟩;·rw[fh s]at q;cases q
    ·rw[q]at a;cases a;exact⟨b,c⟩
   split at j;·exact absurd z j
   ·rename_i q;rw[ag q];split at j
    ·rename_i q;rw[ah q];exact mg (mN g h.bw (by omega) (by rw[B.1];exact q.1) q.2) j
    ·exact absurd rfl j
def ef (g:Int→Bool):Nat→Nat→Int→List Bool
 |0,_,x=>[g x]
 |k+1,m,x=>ef g k (m+1) x++ef g k (m+1) (x+2 ^ m)
theorem tW (g:Int→Bool):∀(k m:Nat) (x:Int),(ef g k m x).length=2 ^ k:=by
 intro k;induction k with
 |zero=>intro m x;rfl
 |succ k j=>
  intro m x;show(ef g k (m+1) x++ef g k (m+1) (x+2 ^ m)).length=_;rw[di,j,j,dd];omega
theorem pO {g s:Int→Bool}:∀(k m:Nat) (x q:Int),(∀j:Nat,g (x+2 ^ m*(j:Int))=s (q+2 ^ m*(j:Int)))→ef g k m x=ef s k m q:=by
 intro k;induction k with
 |zero=>
  intro m x q h;have:=h 0;simp at this;show[g x]=[s q];rw[this]
 |succ k t=>
  intro m x q h;show ef g k (m+1) x++ef g k (m+1) (x+2 ^ m)=ef s k (m+1) q++ef s k (m+1) (q+2 ^ m);rw[t (m+1) x q (fun j=>?_),t (m+1) (x+2 ^ m) (q+2 ^ m) (fun j=>?_)]
  ·have:=h (1+2*j);push_cast at this
   rw[show x+2 ^ m+2 ^ (m+1)*(j:Int)=x+2 ^ m*(1+2*(j:Int)) by rw[Int.pow_succ];rw[Int.mul_add,Int.mul_one,←Int.mul_assoc];omega,
    show q+2 ^ m+2 ^ (m+1)*(j:Int)=q+2 ^ m*(1+2*(j:Int)) by rw[Int.pow_succ];rw[Int.mul_add,Int.mul_one,←Int.mul_assoc];omega]
   exact this
  ·have:=h (2*j);push_cast at this
   rw[show x+2 ^ (m+1)*(j:Int)=x+2 ^ m*(2*(j:Int)) by rw[Int.pow_succ,←Int.mul_assoc],
    show q+2 ^ (m+1)*(j:Int)=q+2 ^ m*(2*(j:Int)) by rw[Int.pow_succ,←Int.mul_assoc]]
   exact this
theorem Ds {g:Int→Bool}(h:∀x,g x=false):∀(k m:Nat) (x:Int),ef g k m x=List.replicate (2 ^ k) false:=by
 intro k;induction k with
 |zero=>intro m x;show[g x]=_;rw[h x];rfl
 |succ k j=>
  intro m x;show ef g k (m+1) x++ef g k (m+1) (x+2 ^ m)=_;rw[j,j,List.replicate_append_replicate,dd];congr 1
  omega
def cm (M:St)(f:Int)(e:Edge)(l:Int):List Bool:=ef (fun x=>tv M f x l e) (M.n-l).toNat l.toNat 0
theorem mW {M:St}{f:Int}{e:Edge}{l:Int}:(cm M f e l).length=2 ^ (M.n-l).toNat:=tW _ _ _ _
theorem tU {M M':St}(h:M.wf)(j:aD M M'){f l:Int}{e:Edge}(q:bo M f l e):cm M' f e l=cm M f e l:=by
 unfold cm;rw[j.n];exact pO _ _ _ _ (fun s=>eL h j q)
theorem pM {M:St}{f l:Int}{e:Edge}(j:e.to=0):cm M f e l=List.replicate (2 ^ (M.n-l).toNat) false:=Ds (fun _=>eB j) _ _ _
theorem tT {M:St}{f l:Int}{e:Edge}(j:e.to≠0)(q:M.n=l):cm M f e l=[true]:=by
 unfold cm;rw[show(M.n-l).toNat=0 by omega];show[tv M f 0 l e]=_;rw[DJ j (by omega)]
theorem vS (m j:Nat):ax (0+2 ^ (m+1)*(j:Int)) (m:Int)=false:=by
 unfold ax;rw[cN,Int.zero_add,Int.pow_succ,show(2:Int) ^ m*2*(j:Int)=2 ^ m*(2*(j:Int)) by rw[Int.mul_assoc],Int.mul_ediv_cancel_left _ (Int.ne_of_gt (Int.pow_pos (by decide)))];rw[aY];omega
theorem vR (m j:Nat):ax (0+2 ^ m+2 ^ (m+1)*(j:Int)) (m:Int)=true:=by
 unfold ax;rw[cN,Int.zero_add,Int.pow_succ,show(2:Int) ^ m+2 ^ m*2*(j:Int)=2 ^ m*(1+2*(j:Int)) by rw[Int.mul_add,Int.mul_one,←Int.mul_assoc],Int.mul_ediv_cancel_left _ (Int.ne_of_gt (Int.pow_pos (by decide)))];rw[bc];omega
theorem vO (m j:Nat)(q:Int)(A:(m:Int)+1≤q):ax (0+2 ^ m+2 ^ (m+1)*(j:Int)) q=ax (0+2 ^ (m+1)*(j:Int)) q:=by
 obtain⟨d,z⟩:∃d:Nat,q.toNat=(m+1)+d:=⟨q.toNat-(m+1),by omega⟩;have q:(0:Int)<2 ^ m:=Int.pow_pos (by decide)
 have s:(0+2 ^ m+2 ^ (m+1)*(j:Int)) / 2 ^ (m+1)=(j:Int):=by
  rw[Int.add_mul_ediv_left _ _ (Int.ne_of_gt (Int.pow_pos (by decide)))];rw[Int.ediv_eq_zero_of_lt (by omega) (by rw[Int.pow_succ];omega)];omega
 have t:(0+2 ^ (m+1)*(j:Int)) / 2 ^ (m+1)=(j:Int):=by
  rw[Int.zero_add,Int.mul_ediv_cancel_left _ (Int.ne_of_gt (Int.pow_pos (by decide)))]
 have key:∀a:Int,a / 2 ^ (m+1+d)=a / 2 ^ (m+1) / 2 ^ d:=fun a=>by
  rw[Int.ediv_ediv_of_nonneg (Int.le_of_lt (Int.pow_pos (by decide))),←Int.pow_add]
 unfold ax;rw[z,key,key,s,t]
theorem tY {f:Int}{M M':St}{l:Int}{e lo hi:Edge}(j:jT f M l e M' lo hi)(s:0≤l)(t:l<M.n):cm M f e l=cm M' f lo (l+1)++cm M' f hi (l+1):=by
 have s:=j.ext.n;obtain⟨m,rfl⟩:∃m:Nat,l=(m:Int):=⟨l.toNat,by omega⟩;unfold cm;rw[show(M.n-(m:Int)).toNat=(M'.n-((m:Int)+1)).toNat+1 by omega,cN,show((m:Int)+1).toNat=m+1 by omega];show ef _ _ (m+1) 0++ef _ _ (m+1) (0+2 ^ m)=_;congr 1
 ·refine pO _ _ _ _ (fun q=>?_);have:=j.cD (0+2 ^ (m+1)*(q:Int));rw[vS,ag (by simp)]at this;exact this
 ·refine pO _ _ _ _ (fun q=>?_);have:=j.cD (0+2 ^ m+2 ^ (m+1)*(q:Int));rw[vR,ah rfl]at this;refine this.trans ?_;exact ud j.wf (bo.of j.cf) (fun s j=>vO m q s j)
theorem dJ.hN {f:Int}{M:St}(h:M.wf){l:Int}{lo hi e:Edge}(A:dJ f M l lo hi e):cK M (aj M f e l)=0∧cH M (aj M f e l)=M∧cz M (aj M f e l)=lo∧bL M f (aj M f e l)=hi:=by
 rcases A.eg with q|⟨j,q,B,t,z⟩
 ·rw[q];exact⟨rfl,rfl,rfl,rfl⟩
 ·rw[q];obtain⟨a,b,c⟩:=k8 h B
  have s:bz M 0 j=lo:=by
   rw[fB a,b];cases lo;simp only at t;rw[t]
  refine⟨a,c,s,?_⟩;show(if M.a' j=0 then(if f=4 then bz M 0 j else j.hi)else⟨0,0⟩:Edge)=hi;rw[ah a,z,s]
theorem aJ.cD {f:Int}{M:St}(t:M.wf)(E:1≤f∧f≤5):∀(k:Nat) (ts:List Bool) (l:Int) (e:Edge),aJ f M k ts l e→l+(k:Int)=M.n→0≤l→cm M f e l=ts:=by
 intro k;induction k with
 |zero=>
  intro ts l e h q j;obtain⟨b,rfl,rfl⟩:=h;cases b with
  |false=>
   rw[pM (show(cY f false l).to=0 from rfl),show(M.n-l).toNat=0 by omega];rfl
  |true=>exact tT (by unfold cY;rw[ah rfl];split<;>(show(1:Int)≠0;decide)) (by omega)
 |succ k z=>
  intro ts l e h q j;obtain⟨E,lo,hi,A,B,s⟩:=h;push_cast at q;obtain⟨E,I,J,L⟩:=s.hN t;have q:=gV t s.leads (by omega) E;rw[I,J,L]at q;rw[tY q j (by omega),z _ _ _ A (by omega) (by omega),z _ _ _ B (by omega) (by omega),List.take_append_drop]
def St.b2 (M:St):St:={ M with room:=1048576 }
theorem St.wf.b2 {M:St}(h:M.wf):M.b2.wf:=⟨h.n0,h.bw,h.gone,h.g1,h.c5,h.b3,h.fp,by show(0:Int)≤1048576;omega,by show(1048576:Int)≤1048576;omega,by have:=h.cS;have:=h.e6;show M.len≤1048576;omega⟩
theorem aD.b2 (M:St):aD M M.b2:=⟨rfl,fun _ _ h=>h⟩
theorem aD.ho (M:St):aD M.b2 M:=⟨rfl,fun _ _ h=>h⟩
theorem BN {M M':St}(j:aD M M')(h:M.wf){f:Int}{e:Edge}{l:Int}(q:M.leads f e l=true)(z:aZ M' f e l=true):aZ M f e l=true:=by
 refine dp.2 ⟨q,fun x t=>?_⟩;have s:=(dp.1 z).2 x (Bk j t);cases q:look M.cs x with
 |none=>exact absurd q t.some
 |some r=>
  rw[j.sub _ _ q]at s;show aI M f r=false;rw[←lP j h q];exact s
theorem mO {M M':St}(j:aD M M')(h:M.wf){f:Int}{e:Edge}{l:Int}(s:M.leads f e l=true)(t:cu M' f e l):cu M f e l:=fun q=>BN j h s (t q)
def gZ (M:St)(f a:Int):Prop:=f=3∨f=4∨f=5→fZ M f a
theorem mP {M:St}{f:Int}{e:Edge}{l:Int}(q:M.leads f e l=true):cu M f e l↔gZ M f e.to:=
 ⟨fun h j=>(dp.1 (h j)).2,fun h j=>dp.2 ⟨q,h j⟩⟩
theorem lN {f:Int}{M M':St}(h:M.wf){l:Int}{e lo hi:Edge}(al:M.leads f e l=true)(ca:0≤l)(b1:l<M.n)(X:cK M (aj M f e l)=0)(b2:cu M f e l)
  (L:M'=cH M (aj M f e l)) (O:lo=cz M (aj M f e l)) (N:hi=bL M f (aj M f e l)) :
  dJ f M' l lo hi e∧cu M' f lo (l+1)∧cu M' f hi (l+1):=by
 have z:=gV h al b1 X
 rw[←L,←O,←N]at z
 obtain⟨b4,a6⟩:=a9.1 al
 obtain⟨b1,ca,cb,cc,cd,ce,b8,b0⟩:=bK.1 b4
 have am:=(mP al).1 b2
 have bn:f=1∨f=2∨f=3∨f=4∨f=5:=by omega
 have b1:=z.ext.n
 have b6:=uo z.ext al
 have E:¬(l<0∨M'.n≤l):=by omega
 have B:¬(M'.leads f lo (l+1)=false∨M'.leads f hi (l+1)=false):=by rw[z.cp,z.cf];simp
 have b3:=z.ext.leads al
 suffices b5:(ay f M' l lo hi=.inl (e,0)∨∃r,ay f M' l lo hi=.inr r∧look M'.cs e.to=some r∧e.tag=eh f r) ∧
   (aj M f e l=.inl (lo,hi,0)∨∃q,aj M f e l=.inr q∧look M'.cs lo.to=some q∧lo.tag=0∧hi=(if f=4 then lo else q.hi))∧gZ M' f lo.to∧gZ M' f hi.to by
  obtain⟨b1,b2,b4,ca⟩:=b5
  exact⟨⟨b1,by rw[b6];exact b2,b3,z.cp,z.cf⟩,(mP z.cp).2 b4,(mP z.cf).2 ca⟩
 have b7:gZ M' f 0:=fun _=>o4 (fh (by decide))
 -- no node at the level
 have bt:∀(_:look M.cs e.to=none∨∃r,look M.cs e.to=some r∧l<r.I) (_:¬(f=5∧(e.to=0∨l<e.tag))),aj M f e l=.inl (aN f l e) →
   (ay f M' l lo hi=.inl (e,0)∨∃r,ay f M' l lo hi=.inr r∧look M'.cs e.to=some r∧e.tag=eh f r) ∧
   (aj M f e l=.inl (lo,hi,0)∨∃q,aj M f e l=.inr q∧look M'.cs lo.to=some q∧lo.tag=0∧hi=(if f=4 then lo else q.hi))∧gZ M' f lo.to∧gZ M' f hi.to:=by
  intro t a5 U
  rw[U]at L O N ⊢
  have a4:M'=M:=L
  have Z:lo=(aN f l e).1:=O
  have Y:hi=(aN f l e).2.1:=N
  have bx:lo.to=e.to:=by
   rw[Z];unfold aN;split;·rfl
   ·split<;>rfl
  have bq:gZ M' f lo.to:=by rw[bx,a4];exact am
  subst a4
  refine⟨.inl ?_,.inl ?_,bq,?_⟩
  ·rcases bn with rfl|rfl|rfl|rfl|rfl
   ·obtain rfl:lo=e:=Z;obtain rfl:hi=lo:=Y;rw[gE];unfold az cW;rw[ag E,ag B,ah rfl]
   ·obtain rfl:lo=e:=Z;obtain rfl:hi=⟨0,0⟩:=Y;rw[gF];unfold az dc;rw[ag E,ag B,ah rfl]
   ·obtain rfl:lo=e:=Z;obtain rfl:hi=lo:=Y;rw[ik];unfold az bk;rw[ag E,ag B,ah rfl]
   ·obtain rfl:lo=e:=Z;obtain rfl:hi=⟨0,0⟩:=Y;rw[il];unfold az bm;rw[ag E,ag B,ah rfl]
   ·have a8:e.to≠0:=fun j=>a5 ⟨rfl,.inl j⟩
    have bv:e.tag=l:=by
     have:¬l<e.tag:=fun j=>a5 ⟨rfl,.inr j⟩;have:=b0 rfl a8;omega
    obtain rfl:lo=⟨l+1,e.to⟩:=Z;obtain rfl:hi=⟨0,0⟩:=Y;rw[gS];unfold bO;rw[ag E,ag B,ag (fun j=>a8 (congrArg Edge.to j)),ah ⟨rfl,rfl⟩];cases e;simp only at bv;rw[bv]
  ·rw[Z,Y]
   have:(aN f l e).2.2=0:=by
    unfold aN;split;·rfl
    ·split<;>rfl
   rw[←this]
  ·have:hi.to=e.to∨hi.to=0:=by
    rw[Y];unfold aN;split;·exact .inl rfl
    ·split<;>exact .inr rfl
   rcases this with j|j;·rw[j,←bx];exact bq
   ·rw[j];exact b7
 obtain⟨Y,U⟩:∃Y,Y=aj M f e l:=⟨_,rfl⟩
 have A:=U
 unfold aj at A
 rw[ag (by omega),ag (by rw[al];simp)]at A
 split at A
 ·rename_i ad;obtain⟨rfl,ad⟩:=ad;rw[←U,A]at L O N ⊢;obtain rfl:M'=M:=L;obtain rfl:lo=e:=O;obtain rfl:hi=lo:=N;refine⟨.inl ?_,.inl rfl,am,am⟩;rw[gS];unfold bO;rw[ag E,ag B,ah rfl]
 ·rename_i ad;cases t:look M.cs e.to with
  |none=>
   rw[t]at A;exact bt (.inl t) ad (U ▸ A)
  |some r=>
   rw[t]at A;simp only[]at A;have g:=h.b6 t;have Y:=g.tb;have Y:=g.bn
   have I:r.al=f∧l≤r.I∧e.tag≤r.I:=by
    rcases a6 with a6|⟨b9,a,b,c,d⟩;·rw[fh a6]at t;cases t
    ·rw[t]at a;cases a;exact⟨b,c,d⟩
   obtain⟨I,Y,Z⟩:=I;by_cases Y:l<r.I
   ·rw[ah Y]at A;exact bt (.inr ⟨r,t,Y⟩) ad (U ▸ A)
   ·rw[ag Y]at A;have aw:r.I=l:=(by omega);have bp:=z.ext.sub _ _ t
    have a7:(f=3∨f=4∨f=5)→aI M' f r=false:=fun j=>by
     rw[lP z.ext h t];have:=am j e.to (Reaches.root (by simp) (by rw[t];simp));rw[t]at this;exact this
    have a0:gZ M' f r.lo.to∧gZ M' f r.hi.to:=by
     refine⟨fun j=>?_,fun j=>?_⟩;·exact ly z.ext h (lj g.lo) (mE (am j) t).1
     ·exact ly z.ext h (lj g.hi) (mE (am j) t).2
    have bw:f≠5→e.tag=0:=fun j=>b8 (.inl j);split at A
    ·rename_i bb;obtain⟨bf,br⟩:=bb;have bg:M.br ⟨r.al,r.I+1,r.J,r.lo,r.hi⟩=false:=mN g h.bw (by omega) (by rw[I];exact bf) br;obtain⟨q,av⟩:∃q:Rec,q=⟨r.al,r.I+1,r.J,r.lo,r.hi⟩:=⟨_,rfl⟩;rw[←av]at A bg;rw[←U,A]at L O N X ⊢;change M.a' q=0 at X;obtain⟨t,Y,Z,al,am,bq⟩:=j7 h bg X;have a4:M'=M.a7 q:=L;have a3:lo=⟨0,M.bd q⟩:=by rw[O];exact fB X
     have J:hi=if f=4 then lo else r.hi:=by
      rw[N];show(if M.a' q=0 then(if f=4 then bz M 0 q else q.hi)else⟨0,0⟩:Edge)=_;rw[ah X,fB X,a3,av]
     have T:look M'.cs lo.to=some q:=(by rw[a4,a3];exact t);have bd:q.I=l+1:=(by rw[av];show r.I+1=_;omega);have be:q.J=r.J:=(by rw[av]);have a':q.lo=r.lo:=(by rw[av]);have a1:q.hi=r.hi:=by rw[av]
     have bs:gZ M' f lo.to:=fun j=>by
      refine sB T ?_ (by rw[a'];exact a0.1 j) (by rw[a1];exact a0.2 j);rw[←a7 j];have ab:¬f=5:=(by omega);unfold aI;rw[ag ab,ag ab,be,a',a1]
     refine⟨.inr ⟨r,?_,bp,by rw[bw (by omega)];unfold eh;rw[ag (by omega)]⟩,.inr ⟨q,rfl,T,by rw[a3],by rw[J,a1]⟩,bs,?_⟩
     ·rcases bf with rfl|rfl
      ·rw[ag (by omega)]at J;rw[ik];unfold az bk;rw[ag E,ag B,ag (fun j=>?_),T]
       ·simp only[];rw[ah bd,ah (by rw[a1,J])];rw[be,a',J];exact congrArg _ (by cases r;simp only at I aw ⊢;rw[I,aw])
       ·rw[J]at j;rw[j]at T;rcases(a9.1 (z.ext.leads g.hi)).2 with c|⟨b9,a,b,c,_⟩;·rw[fh c]at T;cases T
        ·rw[T]at a;have t:=Option.some.inj a;rw[←t,bd]at c;exact absurd br (by have:=g.tb;intro _;clear a6;omega)
      ·rw[ah rfl]at J;rw[il];unfold az bm;rw[ag E,ag B,ag (by rw[J,a3];show¬M.bd q=0;omega),T];simp only[];rw[ah J.symm,ah bd,be,a',a1];exact congrArg _ (by cases r;simp only at I aw ⊢;rw[I,aw])
     ·rw[J];split;·exact bs
      ·exact a0.2
    ·rename_i bb
     have bi:r.J=r.I:=by
      rcases g.chain with W|W;·exact W.symm
      ·unfold fN at W;simp only[dS,beq_iff_eq]at W;by_cases q:r.J=r.I;·exact q
       ·exact absurd ⟨by omega,q⟩ bb
     rw[←U,A]at L O N ⊢;obtain rfl:M'=M:=L;obtain rfl:lo=r.lo:=O;obtain rfl:hi=r.hi:=N;have S:(⟨f,l,l,r.lo,r.hi⟩:Rec)=r:=(by cases r;simp only at I aw bi ⊢;rw[I,bi,aw]);refine⟨.inr ⟨r,?_,bp,?_⟩,.inl rfl,a0.1,a0.2⟩
     ·rcases bn with rfl|rfl|rfl|rfl|rfl
      ·rw[gE];unfold az cW;rw[ag E,ag B,ag (g.apart (by omega) (by omega)),S]
      ·rw[gF];unfold az dc;rw[ag E,ag B,ag (g.zero (.inl I)),S]
      ·have s:=a7 (.inl rfl);unfold aI at s;rw[ag (by omega)]at s;rw[ik];unfold az bk;rw[ag E,ag B,ag (g.apart (by omega) (by omega))];cases W:look M'.cs r.lo.to with
       |none=>simp only[];rw[S]
       |some x=>
        rw[W]at s;simp only[]at s ⊢;rw[ag (by omega)]at s;split
        ·rename_i bD;rw[bc (show x.I=r.J+1 by omega),Bool.true_and]at s;rw[ag (of_decide_eq_false s),S]
        ·rw[S]
      ·have s:=a7 (.inr (.inl rfl));unfold aI at s;rw[ag (by omega)]at s;rw[il];unfold az bm;rw[ag E,ag B,ag (g.zero (.inr I))];cases W:look M'.cs r.lo.to with
       |none=>simp only[];rw[S]
       |some x=>
        rw[W]at s;simp only[if_true]at s ⊢;split
        ·rename_i bD;rw[bc bD,Bool.and_true]at s;have q:=of_decide_eq_false s;rw[ag (by omega),S]
        ·rw[S]
      ·have s:=a7 (.inr (.inr rfl));unfold aI at s;rw[ah rfl]at s;rw[gS];unfold bO;rw[ag E,ag B,ag (g.apart (by omega) (by omega)),ag (fun j=>?_),S];rw[bc j.1,bc (by rw[j.2];omega)]at s;cases s
     ·by_cases ab:f=5
      ·subst ab;have a5:¬(e.to=0∨l<e.tag):=fun j=>ad ⟨rfl,j⟩;have a8:e.to≠0:=fun j=>a5 (.inl j);have:=b0 rfl a8;unfold eh;rw[ah rfl];omega
      ·rw[bw ab];unfold eh;rw[ag ab]
def qc (g:Int)(M:St)(l:Int)(lo hi:Edge):Prop:=
 (cV M (ay g M l lo hi)=0∧dJ g (aX M (ay g M l lo hi)) l lo hi (aL g M (ay g M l lo hi))∧ei M (aX M (ay g M l lo hi)) 1∧cu (aX M (ay g M l lo hi)) g (aL g M (ay g M l lo hi)) l) ∨
 (cV M (ay g M l lo hi)=6∧aX M (ay g M l lo hi)=M∧aL g M (ay g M l lo hi)=⟨0,0⟩∧M.room≤M.len)
theorem zu {g:Int}{M:St}(h:M.wf){l:Int}{lo hi:Edge}(J:1≤g∧g≤5)(ab:0≤l)(ad:l<M.n)(aw:M.len<1048576)(X:M.leads g lo (l+1)=true)(Y:M.leads g hi (l+1)=true)
  (a0:cu M g lo (l+1)) (am:cu M g hi (l+1)):qc g M l lo hi:=by
 have B:=aD.b2 M
 have a1:=rW h.b2 J ab ad aw (B.leads X) (B.leads Y) (ez B h a0) (ez B h am)
 have Z:ay g M.b2 l lo hi=ay g M l lo hi:=rfl
 obtain⟨q,z,E,A⟩:=a1
 rw[Z]at q z E A
 unfold qc
 cases U:ay g M l lo hi with
 |inl x=>
  rw[U]at q z E A;have N:aL g M.b2 (.inl x)=aL g M (.inl x):=by unfold aL;split<;>rfl
  rw[N]at z A;exact .inl ⟨q,z.ext (aD.ho M) J,⟨aD.refl _,h,by show M.len≤M.len+1;omega,rfl⟩,ez (aD.ho M) h.b2 A⟩
 |inr r=>
  rw[U]at q z E A;change M.b2.a' r=0 at q;have L:M.b2.bD r=M.bD r:=rfl;have I:M.b2.br r=M.br r:=rfl;by_cases j:M.a' r=0
  ·left
   have hid:M.b2.bd r=M.bd r:=by
    unfold St.a' at q j;unfold St.bd;rw[L]at q ⊢;cases hi:M.bD r with
    |some id=>rfl
    |none=>
     rw[hi]at q j;simp only[]at q j ⊢
     have s:M.br r=false:=by
      cases s:M.br r with
      |false=>rfl
      |true=>rw[s]at j;cases j
     rw[I,s]at q ⊢;rw[s]at j;rw[ag (by simp)]at q j;simp only[Bool.false_eq_true,if_false];have O:¬M.room≤M.len:=fun t=>(by rw[ah t]at j;cases j);have S:¬M.b2.room≤M.b2.len:=fun t=>(by rw[ah t]at q;cases q);rw[ag O,ag S];rfl
   have W:(M.b2.a7 r).cs=(M.a7 r).cs∧(M.b2.a7 r).n=(M.a7 r).n:=by
    unfold St.a' at q j;unfold St.a7;rw[L]at q ⊢;cases hi:M.bD r with
    |some id=>exact⟨rfl,rfl⟩
    |none=>
     rw[hi]at q j;simp only[]at q j ⊢
     have s:M.br r=false:=by
      cases s:M.br r with
      |false=>rfl
      |true=>rw[s]at j;cases j
     rw[I,s]at q ⊢;rw[s]at j;rw[ag (by simp)]at q j;simp only[Bool.false_eq_true,if_false];have O:¬M.room≤M.len:=fun t=>(by rw[ah t]at j;cases j);have S:¬M.b2.room≤M.b2.len:=fun t=>(by rw[ah t]at q;cases q);rw[ag O,ag S];exact⟨rfl,rfl⟩
   have T:aD (M.b2.a7 r) (M.a7 r):=⟨W.2.symm,fun _ _ t=>by rw[←W.1];exact t⟩
   have N:aL g M.b2 (.inr r)=aL g M (.inr r):=by
    unfold aL;split
    ·show bz M.b2 r.I r=bz M r.I r;rw[fB q,fB j,hid]
    ·show bz M.b2 0 r=bz M 0 r;rw[fB q,fB j,hid]
   rw[N]at z A;have a3:(M.b2.a7 r).wf:=E.wf
   have al:ei M (M.a7 r) 1:=by
    cases s:M.br r with
    |false=>
     obtain⟨O,t,B,S,E,N⟩:=j7 h s j;exact⟨t,B,E,N⟩
    |true=>
     have av:∃id,M.bD r=some id:=by
      unfold St.a' at j;cases hi:M.bD r with
      |some id=>exact⟨id,rfl⟩
      |none=>rw[hi]at j;simp only[]at j;rw[s,ah rfl]at j;cases j
     obtain⟨id,hi⟩:=av;have:=(k8 h ((jf h.b3 r id).2 hi)).2.2;rw[this];exact ei.refl h (by decide)
   exact⟨j,z.ext T J,al,ez T a3 A⟩
  ·right
   have s:M.br r=false:=by
    cases s:M.br r with
    |false=>rfl
    |true=>
     exfalso;unfold St.a' at q j;rw[L,I,s]at q;cases hi:M.bD r with
     |some id=>rw[hi]at j;exact j rfl
     |none=>rw[hi]at q;simp at q
   obtain⟨q,t,z⟩:=mg s j;refine⟨q,t,?_,z⟩;unfold aL;split;·exact j8 j
   ·exact j8 j
theorem rF {g:Int}{M:St}(h:M.wf)(B:1≤g∧g≤5):∀(k:Nat) (l:Int),0≤l→l+(k:Int)=M.n→aJ g M k (List.replicate (2 ^ k) false) l ⟨0,0⟩:=by
 have O:=h.n0;have S:=h.bw
 have E:∀l:Int,0≤l→l≤M.n→M.leads g ⟨0,0⟩ l=true:=fun l t J=>
  a9.2 ⟨bK.2 ⟨B.1,B.2,O,S,t,J,fun _=>rfl,fun _ j=>absurd rfl j⟩,.inl (by show(0:Int)<2;omega)⟩
 intro k;induction k with
 |zero=>intro l _ _;exact⟨false,rfl,rfl⟩
 |succ k J=>
  intro l t B;push_cast at B;have j:=J (l+1) (by omega) (by omega);have B:2 ^ (k+1)=2 ^ k+2 ^ k:=by rw[dd];omega
  have T:(List.replicate (2 ^ (k+1)) false).take (2 ^ k)=List.replicate (2 ^ k) false:=by rw[List.take_replicate,B,Nat.min_eq_left (Nat.le_add_right _ _)]
  have L:(List.replicate (2 ^ (k+1)) false).drop (2 ^ k)=List.replicate (2 ^ k) false:=by rw[List.drop_replicate,B,Nat.add_sub_cancel]
  have I:=E l t (by omega);have A:=E (l+1) (by omega) (by omega);refine⟨by simp,⟨0,0⟩,⟨0,0⟩,by rw[T];exact j,by rw[L];exact j,⟨.inl ?_,.inl ?_,I,A,A⟩⟩
  ·have s:¬(l<0∨M.n≤l):=(by omega);have q:∀f:Int,f=g→¬(M.leads f ⟨0,0⟩ (l+1)=false∨M.leads f ⟨0,0⟩ (l+1)=false):=fun f t=>(by rw[t,A];simp);have N:g=1∨g=2∨g=3∨g=4∨g=5:=(by omega);rcases N with rfl|rfl|rfl|rfl|rfl;·rw[gE];unfold az cW;rw[ag s,ag (q _ rfl),ah rfl]
   ·rw[gF];unfold az dc;rw[ag s,ag (q _ rfl),ah rfl]
   ·rw[ik];unfold az bk;rw[ag s,ag (q _ rfl),ah rfl]
   ·rw[il];unfold az bm;rw[ag s,ag (q _ rfl),ah rfl]
   ·rw[gS];unfold bO;rw[ag s,ag (q _ rfl),ah rfl]
  ·unfold aj;rw[ag (by omega),ag (by rw[I];simp)];by_cases z:g=5;·rw[ah ⟨z,.inl rfl⟩]
   ·rw[ag (fun j=>z j.1),fh (by decide)];show Sum.inl (aN g l ⟨0,0⟩)=_;unfold aN;rw[ag z];split<;>rfl
def St.cd (M:St):Prop:=M.gone=[]∧∀o∈M.cs,o≠none
theorem tH {M:St}(h:M.cd)(r:Rec):(M.a7 r).cd:=by
 unfold St.a7;cases M.bD r with
 |some id=>exact h
 |none=>
  simp only[];split;·exact h
  ·split;·exact h
   ·refine⟨by show M.gone.dropLast=[];rw[h.1];rfl,fun o j=>?_⟩;change o∈dn M.cs M.gone r at j;unfold dn at j;rw[h.1]at j;simp only[List.getLast?_nil]at j;rcases List.mem_append.1 j with j|j;·exact h.2 o j
    ·rw[cF]at j;subst j;simp
theorem mV {M:St}(h:M.cd)(a:(Edge×Int) ⊕ Rec):(aX M a).cd:=by
 cases a with
 |inl x=>exact h
 |inr r=>exact tH h r
theorem CZ {M:St}(h:M.cd)(a:(Edge×Edge×Int) ⊕ Rec):(cH M a).cd:=by
 cases a with
 |inl x=>exact h
 |inr r=>exact tH h r
structure jm (f:Int)(M:St)(l:Int)(lo hi:Edge)(M':St)(e:Edge):Prop where
 ext:aD M M'
 wf:M'.wf
 len:M'.len≤M.len+1
 room:M'.room=M.room
 lead:M'.leads f e l=true
 cD:∀x,tv M' f x l e=tv M f x (l+1) (if ax x l then hi else lo)
theorem uh {M:St}{f x l:Int}{e:Edge}(s:M.leads f e (l+1)=true)(t:e.to≠0)(j:l<M.n):tv M f x l e=(if aP f e l&&ax x l then false else tv M f x (l+1) e):=by
 refine jM t j ?_;cases q:look M.cs e.to with
 |none=>exact .inl rfl
 |some r=>
  obtain⟨j,t,z⟩:=dY s q;exact .inr ⟨r,rfl,by omega⟩
theorem lp {f:Int}{M:St}(h:M.wf){l:Int}{lo hi:Edge}(q:0≤l)(t:l<M.n)(j:M.leads f lo (l+1)=true)(s:∀x,tv M f x l lo=tv M f x (l+1) (if ax x l then hi else lo)):jm f M l lo hi M lo:=
 ⟨aD.refl M,h,by omega,rfl,mq j q (by omega),s⟩
theorem wQ (x l:Int):cw x l (l+1-l).toNat=!ax x l:=by
 rw[show(l+1-l).toNat=1 by omega];show(!ax x l&&true)=_;rw[Bool.and_true]
theorem CH {x f l:Int}{lo hi:Edge}:aT x ⟨f,l,l,lo,hi⟩=if ax x l then hi else lo:=by
 unfold aT eJ;simp only[];by_cases j:f=3;·rw[ah j,wQ,Bool.not_not]
 ·rw[ag j]
theorem oR {f:Int}{M:St}(h:M.wf){l:Int}{lo hi:Edge}(S:0≤l)(s:l<M.n)(E:1≤f∧f≤5){r:Rec}(I:r.al=f)(J:r.I=l)(B:M.br r=false)
  (T:∀(M':St) x,aD M M'→M'.wf→tv M' f x (r.J+1) (aT x r)=tv M' f x (l+1) (if ax x l then hi else lo)) (N:M.leads f lo (l+1)=true) (O:M.leads f hi (l+1)=true) :
  (M.a' r=0∧jm f M l lo hi (M.a7 r) (aL f M (.inr r)))∨(M.a' r=6∧M.a7 r=M∧aL f M (.inr r)=⟨0,0⟩∧M.room≤M.len):=by
 by_cases j:M.a' r=0
 ·left;obtain⟨L,t,z,s,U,W⟩:=j7 h B j;have s:=t.n;have s:=h.n0;have s:=h.bw
  have A:aL f M (.inr r)=⟨if f=5 then l else 0,M.bd r⟩:=by
   unfold aL;by_cases s:f=5
   ·rw[ah s,ah s];show bz M r.I r=_;rw[fB j,J]
   ·rw[ag s,ag s];show bz M 0 r=_;rw[fB j]
  refine⟨j,t,z,U,W,?_,fun x=>?_⟩
  ·rw[A];refine a9.2 ⟨bK.2 ⟨E.1,E.2,by omega,by omega,S,by omega,fun q=>?_,fun q _=>?_⟩,.inr ⟨r,L,I,by omega,?_⟩⟩
   ·rcases q with q|q
    ·show(if f=5 then l else 0)=0;rw[ag q]
    ·exfalso;change M.bd r=0 at q;omega
   ·show l≤(if f=5 then l else 0)∧(if f=5 then l else 0)≤_;rw[ah q];omega
   ·show(if f=5 then l else 0)≤r.I;split<;>omega
  ·rw[A];rw[kK z (by omega) (show look (M.a7 r).cs _=some r from L) I (by omega) J,T _ x t z];refine eL h t (bo.of ?_);split;·exact O
   ·exact N
 ·right;obtain⟨q,s,t⟩:=mg B j;refine⟨q,s,?_,t⟩;unfold aL;split;·exact j8 j
  ·exact j8 j
def iT (f:Int)(M:St)(l:Int)(lo hi:Edge):Prop:=
 (cV M (ay f M l lo hi)=0∧jm f M l lo hi (aX M (ay f M l lo hi)) (aL f M (ay f M l lo hi))) ∨
 (cV M (ay f M l lo hi)=6∧aX M (ay f M l lo hi)=M∧aL f M (ay f M l lo hi)=⟨0,0⟩∧M.room≤M.len)
theorem ke {f:Int}{M:St}{l:Int}{lo hi e:Edge}(s:ay f M l lo hi=.inl (e,0))(q:jm f M l lo hi M e):iT f M l lo hi:=by
 unfold iT;rw[s];have j:aL f M (.inl (e,0))=e:=by unfold aL;split<;>rfl
 rw[j];exact .inl ⟨rfl,q⟩
theorem oQ {f:Int}{M:St}{l:Int}{lo hi:Edge}{r:Rec}(q:ay f M l lo hi=.inr r)
  (j:(M.a' r=0∧jm f M l lo hi (M.a7 r) (aL f M (.inr r)))∨(M.a' r=6∧M.a7 r=M∧aL f M (.inr r)=⟨0,0⟩∧M.room≤M.len)):iT f M l lo hi:=by
 unfold iT
 rw[q]
 exact j
theorem ln {f:Int}{M:St}(h:M.wf){l:Int}{lo hi:Edge}(s:0≤l)(t:l<M.n)(A:1≤f∧f≤5)(j:M.leads f lo (l+1)=true)(q:M.leads f hi (l+1)=true)
  (B:ay f M l lo hi=.inr ⟨f,l,l,lo,hi⟩) (E:f=2∨f=4→hi.to≠0) (z:f≠2→f≠4→lo≠hi):iT f M l lo hi:=
 oQ B (oR h s t A rfl rfl (ko s t j q E z) (fun M' x _ _=>by rw[CH]) j q)
theorem qM {M:St}{f l:Int}{e:Edge}(q:M.leads f e l=true)(j:e.to=0):e=⟨0,0⟩:=by
 have:=(bK.1 (a9.1 q).1).2.2.2.2.2.2.1 (.inr j);cases e;simp only at j this;rw[j,this]
theorem kg {f:Int}{M:St}(h:M.wf){l:Int}{lo hi:Edge}(N:1≤f∧f≤5)(t:0≤l)(z:l<M.n)(j:M.leads f lo (l+1)=true)(J:M.leads f hi (l+1)=true):iT f M l lo hi:=by
 have I:¬(l<0∨M.n≤l):=by omega
 have E:∀g:Int,g=f→¬(M.leads g lo (l+1)=false∨M.leads g hi (l+1)=false):=fun g bb=>by rw[bb,j,J];simp
 have a':f=1∨f=2∨f=3∨f=4∨f=5:=by omega
 -- the same halves, or the upper one to nothing
 have same:lo=hi→(∀e:Edge,M.leads f e (l+1)=true→e.to≠0→aP f e l=false)→∀x,tv M f x l lo=tv M f x (l+1) (if ax x l then hi else lo):=fun ab av x=>by
  subst ab;rw[ite_self];by_cases A:lo.to=0;·rw[eB A,eB A]
  ·rw[uh j A z,av lo j A,Bool.false_and];rfl
 have a7:hi.to=0→(∀e:Edge,aP f e l=true)→∀x,tv M f x l lo=tv M f x (l+1) (if ax x l then hi else lo):=fun A av x=>by
  by_cases am:lo.to=0
  ·rw[eB am];split;·rw[eB A]
   ·rw[eB am]
  ·rw[uh j am z,av lo,Bool.true_and];split;·rw[eB A]
   ·rfl
 rcases a' with rfl|rfl|rfl|rfl|rfl
 ·by_cases c:lo=hi;·exact ke (by rw[gE];unfold az cW;rw[ag I,ag (E _ rfl),ah c]) (lp h t z j (same c (fun _ _ _=>rfl)))
  ·exact ln h t z N j J (by rw[gE];unfold az cW;rw[ag I,ag (E _ rfl),ag c]) (by omega) (fun _ _=>c)
 ·by_cases c:hi.to=0;·exact ke (by rw[gF];unfold az dc;rw[ag I,ag (E _ rfl),ah c]) (lp h t z j (a7 c (fun _=>rfl)))
  ·exact ln h t z N j J (by rw[gF];unfold az dc;rw[ag I,ag (E _ rfl),ag c]) (fun _=>c) (by omega)
 ·by_cases c:lo=hi;·exact ke (by rw[ik];unfold az bk;rw[ag I,ag (E _ rfl),ah c]) (lp h t z j (same c (fun _ _ _=>rfl)))
  ·have U:ay 3 M l lo hi=bk M l lo hi:=(by rw[ik];unfold az;rw[ag I,ag (E _ rfl)]);have node:bk M l lo hi=.inr ⟨3,l,l,lo,hi⟩→iT 3 M l lo hi:=fun Z=>ln h t z N j J (U.trans Z) (by omega) (fun _ _=>c);cases q:look M.cs lo.to with
   |none=>exact node (by unfold bk;rw[ag c,q])
   |some r=>
    by_cases B:r.I=l+1
    ·by_cases s:r.hi=hi
     ·obtain⟨L,a1,a3⟩:=dY j q;have g:=h.b6 q;have gt:=g.tb;have a8:=g.bn;have a4:=g.hi;rw[L]at a4;have a5:=l4 h q L (.inl rfl) t B;rw[s]at a5;refine oQ (U.trans (by unfold bk;rw[ag c,q];simp only[];rw[ah B,ah s])) (oR h t z N rfl rfl a5 (fun M' x S W=>?_) j J);have ad:=S.sub _ _ q;have bf:=S.n
      have al:aT x ⟨3,l,r.J,r.lo,hi⟩=if ax x l then hi else aT x r:=by
       unfold aT eJ;simp only[];rw[ah L,ah trivial,show(r.J+1-l).toNat=(r.J+1-r.I).toNat+1 by omega];show(if !(!ax x l&&cw x (l+1) (r.J+1-r.I).toNat)then hi else r.lo)=_;rw[B,s];cases ax x l with
       |true=>rfl
       |false=>rfl
      show tv M' 3 x (r.J+1) (aT x ⟨3,l,r.J,r.lo,hi⟩)=_;rw[al];cases am:ax x l with
      |true=>
       rw[ah rfl,ah rfl];have bn:M'.leads 3 hi (r.J+1)=true:=(by rw[←s];exact S.leads a4);refine(ue rfl (by omega) ?_ (r.J+1-(l+1)).toNat (l+1) (by omega)).symm;rcases(bo.of bn).2 with am|⟨av,X,Y,aw⟩;·exact .inl am
       ·exact .inr ⟨av,X,aw⟩
      |false=>
       rw[ag (by simp),ag (by simp)];exact(kK W (by omega) ad L (by omega) B).symm
     ·exact node (by unfold bk;rw[ag c,q];simp only[];rw[ah B,ag s])
    ·exact node (by unfold bk;rw[ag c,q];simp only[];rw[ag B])
 ·by_cases c:hi.to=0;·exact ke (by rw[il];unfold az bm;rw[ag I,ag (E _ rfl),ah c]) (lp h t z j (a7 c (fun _=>rfl)))
  ·have U:ay 4 M l lo hi=bm M l lo hi:=(by rw[il];unfold az;rw[ag I,ag (E _ rfl)]);have node:bm M l lo hi=.inr ⟨4,l,l,lo,hi⟩→iT 4 M l lo hi:=fun Z=>ln h t z N j J (U.trans Z) (fun _=>c) (by omega);cases q:look M.cs lo.to with
   |none=>exact node (by unfold bm;rw[ag c,q])
   |some r=>
    by_cases B:lo=hi
    ·by_cases s:r.I=l+1
     ·obtain⟨L,a1,a3⟩:=dY j q;have g:=h.b6 q;have gt:=g.tb;have a8:=g.bn;refine oQ (U.trans (by unfold bm;rw[ag c,q];simp only[];rw[ah B,ah s])) (oR h t z N rfl rfl (l4 h q L (.inr rfl) t s) (fun M' x S W=>?_) j J);have ad:=S.sub _ _ q;have bf:=S.n
      have al:aT x ⟨4,l,r.J,r.lo,r.hi⟩=aT x r:=by
       unfold aT eJ;simp[show¬r.al=3 by omega]
      show tv M' 4 x (r.J+1) (aT x ⟨4,l,r.J,r.lo,r.hi⟩)=_;rw[al,←B,ite_self];exact(kK W (by omega) ad L (by omega) s).symm
     ·exact node (by unfold bm;rw[ag c,q];simp only[];rw[ah B,ag s])
    ·exact node (by unfold bm;rw[ag c,q];simp only[];rw[ag B])
 ·by_cases c:lo=hi
  ·refine ke (by rw[gS];unfold bO;rw[ag I,ag (E _ rfl),ah c]) (lp h t z j (same c (fun e ab A=>?_)));have:=(bK.1 (a9.1 ab).1).2.2.2.2.2.2.2 rfl A;unfold aP;simp;omega
  ·by_cases s:hi.to=0∧lo.tag=l+1
   ·obtain⟨s,a0⟩:=s;have A:lo.to≠0:=fun O=>c (by rw[qM j O,qM J s]);obtain⟨bg,T⟩:=a9.1 j;obtain⟨B,S,U,Z,ab,ad,al,am⟩:=bK.1 bg
    have be:M.leads 5 ⟨l,lo.to⟩ l=true:=by
     refine a9.2 ⟨bK.2 ⟨B,S,U,Z,t,by omega,fun O=>?_,fun _ _=>⟨Int.le_refl _,by show l≤M.n;omega⟩⟩,?_⟩
     ·rcases O with O|O;·exact absurd rfl O
      ·exact absurd O A
     ·rcases T with T|⟨r,X,Y,aw,bq⟩;·exact .inl T
      ·exact .inr ⟨r,X,Y,by omega,by show l≤r.I;omega⟩
    refine ke (e:=⟨l,lo.to⟩) (by rw[gS];unfold bO;rw[ag I,ag (E _ rfl),ag c,ah ⟨s,a0⟩]) ⟨aD.refl M,h,by omega,rfl,be,fun x=>?_⟩
    have bi:look M.cs (⟨l,lo.to⟩:Edge).to=none∨∃r,look M.cs (⟨l,lo.to⟩:Edge).to=some r∧l<r.I:=by
     show look M.cs lo.to=none∨∃r,look M.cs lo.to=some r∧l<r.I;cases q:look M.cs lo.to with
     |none=>exact .inl rfl
     |some r=>obtain⟨L,a1,a3⟩:=dY j q;exact .inr ⟨r,rfl,by omega⟩
    have bp:aP 5 ⟨l,lo.to⟩ l=true:=by unfold aP;simp
    have W:bo M 5 (l+1) ⟨l,lo.to⟩:=by
     refine⟨by omega,?_⟩;show lo.to<2∨_;rcases T with T|⟨r,X,Y,aw,bq⟩;·exact .inl T
     ·exact .inr ⟨r,X,Y,by omega⟩
    rw[jM (e:=⟨l,lo.to⟩) A z bi,bp,Bool.true_and];cases ax x l with
    |true=>rw[ah rfl,ah rfl,eB s]
    |false=>
     rw[ag (by simp),ag (by simp)];refine ui W rfl (fun a6 bd=>?_);unfold aP;simp only[a0];have q:decide (l≤a6)=true:=bc (by omega);have A:decide (l+1≤a6)=true:=bc bd;rw[q,A]
   ·exact ln h t z N j J (by rw[gS];unfold bO;rw[ag I,ag (E _ rfl),ag c,ag s]) (by omega) (fun _ _=>c)
theorem mv {f:Int}{M:St}(h:M.wf){l:Int}{lo hi:Edge}(B:1≤f∧f≤5)(t:0≤l)(z:l<M.n)(I:M.len<1048576)(q:M.leads f lo (l+1)=true)(s:M.leads f hi (l+1)=true)
  (A:cV M (ay f M l lo hi)=0) (J:cu M f lo (l+1)) (E:cu M f hi (l+1)):cu (aX M (ay f M l lo hi)) f (aL f M (ay f M l lo hi)) l:=by
 rcases zu h B t z I q s J E with⟨_,_,_,q⟩|⟨j,_⟩
 ·exact q
 ·rw[A]at j;cases j
structure qd (lv y z:Int):Prop where
 up:ax y lv=ax z (lv+1)
 eg:ax y (lv+1)=ax z lv
 rest:∀j,0≤j→j≠lv→j≠lv+1→ax y j=ax z j
structure gn (lv f:Int)(M:St)(e:Edge)(l:Int)(x:Edge):Prop where
 lead:M.leads f x l=true
 ok:x.ok
 cD:∀y z,qd lv y z→tv M f y l x=tv M f z l e
 right:cu M f e l→cu M f x l
theorem gn.ext {lv f:Int}{M M':St}{e x:Edge}{l:Int}(j:aD M M')(q:M.wf)(s:M.leads f e l=true)(h:gn lv f M e l x):gn lv f M' e l x:=
 ⟨j.leads h.lead,h.ok,fun y A z=>by rw[eL q j (bo.of h.lead),eL q j (bo.of s)];exact h.cD y A z,fun t=>ez j q (h.right (mO j q s t))⟩
structure cM (M M':St)(c:Int):Prop where
 ext:aD M M'
 wf:M'.wf
 room:M'.room=M.room
 len:M'.len≤M.len+c
 cd:M.cd→M'.cd
theorem cM.refl {M:St}(h:M.wf):cM M M 0:=⟨aD.refl M,h,rfl,by omega,fun h=>h⟩
theorem cM.trans {j q C:St}{c d:Int}(h:cM j q c)(k:cM q C d):cM j C (c+d):=⟨h.ext.trans k.ext,k.wf,k.room.trans h.room,by have:=h.len;have:=k.len;omega,fun j=>k.cd (h.cd j)⟩
theorem cM.le {j q:St}{c d:Int}(h:cM j q c)(s:c≤d):cM j q d:=⟨h.ext,h.wf,h.room,by have:=h.len;omega,h.cd⟩
theorem cM.ga {j q:St}{c:Int}(h:cM j q c)(s:j.room<1048576):q.len<1048576:=by
 have:=h.wf.cS;have:=h.room;omega
structure fJ (lv f:Int)(M:St)(e:Edge)(l:Int)(M':St)(x:Edge)(er:Int)(c:Int):Prop where
 cc:cM M M' c
 c5:er=0→gn lv f M' e l x
 cS:er≠0→er=6∧x=⟨0,0⟩∧M'.room≤M'.len
theorem jO {f:Int}{M:St}(h:M.wf){l:Int}{e:Edge}(t:M.leads f e l=true)(q:l<M.n)(s:cK M (aj M f e l)=0):cM M (cH M (aj M f e l)) 1:=by
 have j:=gV h t q s;exact⟨j.ext,j.wf,j.room,j.len,fun q=>CZ q _⟩
theorem mw {f:Int}{M:St}{l:Int}{lo hi:Edge}(j:jm f M l lo hi (aX M (ay f M l lo hi)) (aL f M (ay f M l lo hi))):cM M (aX M (ay f M l lo hi)) 1:=⟨j.ext,j.wf,j.room,j.len,fun q=>mV q _⟩
theorem Dp {lv f:Int}{M j:St}(q:M.wf){e:Edge}{l c:Int}(B:M.leads f e l=true)(s:l<M.n)(z:0≤c)(A:cK M (aj M f e l)≠0)(t:j=cH M (aj M f e l)) :
  cK M (aj M f e l)=6∧j=M∧fJ lv f M e l M ⟨0,0⟩ 6 c:=by
 obtain⟨a,b,d⟩:=mZ q B s A
 exact⟨a,t.trans b,(cM.refl q).le z,fun h=>by(cases h),fun _=>⟨rfl,rfl,d⟩⟩
theorem lL {lv f:Int}{M M':St}{e:Edge}{l c d:Int}(s:cM M M' d)(j:d≤c)(q:M'.room≤M'.len):fJ lv f M e l M' ⟨0,0⟩ 6 c:=
 ⟨s.le j,fun h=>by(cases h),fun _=>⟨rfl,rfl,q⟩⟩
theorem Dm {lv f:Int}{M B Z j:St}(A:M.wf)(a5:M.room<1048576)(ab:1≤f∧f≤5){e lo hi x y:Edge}{l c:Int}(z:M.leads f e l=true)(J:0≤l)(a':l<lv)(bb:lv+1<M.n)(U:cK M (aj M f e l)=0)
  (S:B=cH M (aj M f e l)) (aw:lo=cz M (aj M f e l)) (al:hi=bL M f (aj M f e l))
  (s:fJ lv f B lo (l+1) Z x 0 c) (t:fJ lv f Z hi (l+1) j y 0 c) (a1:(aL f j (ay f j l x y)).ok) :
  fJ lv f M e l (aX j (ay f j l x y)) (aL f j (ay f j l x y)) (cV j (ay f j l x y)) (2+2*c):=by
 have q:=gV A z (by omega) U
 have ad:=jO A z (by omega) U
 have a3:=fun W=>lN A z J (by omega) U W S aw al
 rw[←S]at ad
 rw[←S,←aw,←al]at q
 have am:B.leads f lo (l+1)=true:=q.cp
 have av:B.leads f hi (l+1)=true:=q.cf
 have a0:=s.cc.ext.leads av
 have E:=(s.c5 rfl).ext t.cc.ext s.cc.wf (s.cc.ext.leads am)
 have I:=t.c5 rfl
 have L:=(ad.trans s.cc).trans t.cc
 have B:=L.ext.n
 have B:=q.ext.n
 have O:=s.cc.ext.trans t.cc.ext
 rcases kg t.cc.wf ab J (by omega) E.lead I.lead with⟨N,T⟩|⟨N,a6,a7,a8⟩
 ·rw[N];have Y:=L.trans (mw T);have a4:=fun a b=>mv t.cc.wf ab J (show l<j.n by omega) (L.ga a5) E.lead I.lead N a b;refine⟨Y.le (by omega),fun _=>⟨T.lead,a1,fun a b X=>?_,fun W=>?_⟩,fun h=>absurd rfl h⟩
  ·rw[T.cD,eL A Y.ext (bo.of z),q.cD,←X.rest l J (by omega) (by omega)];cases ax a l with
   |true=>
    rw[ah rfl,ah rfl,I.cD a b X];exact(eL s.cc.wf t.cc.ext (bo.of a0)).trans (eL q.wf s.cc.ext (bo.of av))
   |false=>
    rw[ag (by simp),ag (by simp),E.cD a b X];exact eL q.wf O (bo.of am)
  ·obtain⟨_,j,s⟩:=a3 (mO Y.ext A z W);exact a4 (E.right (ez O q.wf j)) (I.right (ez O q.wf s))
 ·rw[N,a6,a7];exact lL L (by omega) a8
theorem Dl {lv f:Int}{M I z A L E:St}(T:M.wf)(a4:M.room<1048576)(O:1≤f∧f≤5){e lo hi a b c d x y:Edge}(S:M.leads f e lv=true)(al:0≤lv)(ci:lv+1<M.n)(a0:cK M (aj M f e lv)=0)
  (am:I=cH M (aj M f e lv)) (bp:lo=cz M (aj M f e lv)) (bn:hi=bL M f (aj M f e lv))
  (a1:cK I (aj I f lo (lv+1))=0) (av:z=cH I (aj I f lo (lv+1))) (be:a=cz I (aj I f lo (lv+1))) (bf:b=bL I f (aj I f lo (lv+1)))
  (a3:cK z (aj z f hi (lv+1))=0) (aw:A=cH z (aj z f hi (lv+1))) (bg:c=cz z (aj z f hi (lv+1))) (bi:d=bL z f (aj z f hi (lv+1)))
  (bD:cV A (ay f A (lv+1) a c)=0) (bb:L=aX A (ay f A (lv+1) a c)) (b6:x=aL f A (ay f A (lv+1) a c))
  (b0:cV L (ay f L (lv+1) b d)=0) (bd:E=aX L (ay f L (lv+1) b d)) (b7:y=aL f L (ay f L (lv+1) b d)) (b1:(aL f E (ay f E lv x y)).ok) :
  fJ lv f M e lv (aX E (ay f E lv x y)) (aL f E (ay f E lv x y)) (cV E (ay f E lv x y)) 6:=by
 have B:=gV T S (by omega) a0
 have w1:=jO T S (by omega) a0
 have b2:=fun N=>lN T S al (by omega) a0 N am bp bn
 rw[←am]at w1
 rw[←am,←bp,←bn]at B
 have L:=B.ext.n
 have s:=gV B.wf B.cp (by omega) a1
 have ab:=jO B.wf B.cp (by omega) a1
 have b3:=fun N=>lN B.wf B.cp (by omega) (by omega) a1 N av be bf
 rw[←av]at ab
 rw[←av,←be,←bf]at s
 have L:=s.ext.n
 have L:=s.ext.leads B.cf
 have j:=gV s.wf L (by omega) a3
 have ad:=jO s.wf L (by omega) a3
 have b4:=fun N=>lN s.wf L (by omega) (by omega) a3 N aw bg bi
 rw[←aw]at ad
 rw[←aw,←bg,←bi]at j
 have L:=j.ext.n
 have bs:=j.ext.leads s.cp
 have lb:=j.ext.leads s.cf
 rcases kg j.wf O (l:=lv+1) (by omega) (by omega) bs j.cp with⟨W,t⟩|⟨W,_⟩
 case inr=>rw[bD]at W;cases W
 have a8:=mw t
 have bq:=fun p q=>mv j.wf O (l:=lv+1) (by omega) (by omega) (((w1.trans ab).trans ad).ga a4) bs j.cp W p q
 rw[←bb]at a8
 rw[←bb,←b6]at t bq
 have L:=t.ext.n
 have bt:=t.ext.leads lb
 have bv:=t.ext.leads j.cf
 rcases kg t.wf O (l:=lv+1) (by omega) (by omega) bt bv with⟨X,J⟩|⟨X,_⟩
 case inr=>rw[b0]at X;cases X
 have L:=mw J
 have br:=fun p q=>mv t.wf O (l:=lv+1) (by omega) (by omega) ((((w1.trans ab).trans ad).trans a8).ga a4) bt bv X p q
 rw[←bd]at L
 rw[←bd,←b7]at J br
 have W:=J.ext.n
 have bw:=J.ext.leads t.lead
 have a5:=(((w1.trans ab).trans ad).trans a8).trans L
 rcases kg J.wf O al (by omega) bw J.lead with⟨L,a7⟩|⟨L,W,X,ab⟩
 case inr=>rw[L,W,X];exact lL a5 (by omega) ab
 rw[L]
 have a6:=a5.trans (mw a7)
 have b5:=fun p q=>mv J.wf O al (show lv<E.n by omega) (a5.ga a4) bw J.lead L p q
 refine⟨a6.le (by omega),fun _=>⟨a7.lead,b1,fun p q U=>?_,fun N=>?_⟩,fun h=>absurd rfl h⟩
 ·have O:∀(L:St) (u:Edge),L.wf→L.leads f u (lv+1+1)=true→tv L f p (lv+1+1) u=tv L f q (lv+1+1) u:=fun L u L W=>ud L (bo.of W) (fun L W=>U.rest L (by omega) (by omega) (by omega));have cc:tv A f p (lv+1+1) a=tv z f q (lv+1+1) a:=(eL s.wf j.ext (bo.of s.cp)).trans (O z a s.wf s.cp);have cd:tv A f p (lv+1+1) b=tv z f q (lv+1+1) b:=(eL s.wf j.ext (bo.of s.cf)).trans (O z b s.wf s.cf);have ce:=O A c j.wf j.cp;have cf:=O A d j.wf j.cf;have cg:tv E f p (lv+1) x=tv A f p (lv+1+1) (if ax q lv then c else a):=by rw[eL t.wf J.ext (bo.of t.lead),t.cD,U.eg]
  have ch:tv E f p (lv+1) y=tv A f p (lv+1+1) (if ax q lv then d else b):=by
   rw[J.cD,U.eg];split;·exact eL j.wf t.ext (bo.of j.cf)
   ·exact eL j.wf t.ext (bo.of lb)
  have Z:tv I f q (lv+1) lo=tv z f q (lv+1+1) (if ax q (lv+1)then b else a):=s.cD q;have Y:tv I f q (lv+1) hi=tv A f q (lv+1+1) (if ax q (lv+1)then d else c):=by rw[←eL B.wf s.ext (bo.of B.cf)];exact j.cD q
  rw[a7.cD,eL T a6.ext (bo.of S),B.cD,U.up];cases a':ax q (lv+1)with
  |true=>
   rw[ah rfl,ch];rw[a',ah rfl]at Z Y;cases bx:ax q lv with
   |true=>rw[ah rfl,ah rfl,Y];exact cf
   |false=>rw[ag (by simp),ag (by simp),Z];exact cd
  |false=>
   rw[ag (by simp),cg];rw[a',ag (by simp)]at Z Y;cases bx:ax q lv with
   |true=>rw[ah rfl,ah rfl,Y];exact ce
   |false=>rw[ag (by simp),ag (by simp),Z];exact cc
 ·obtain⟨_,b8,b9⟩:=b2 (mO a6.ext T S N);obtain⟨_,ca,cb⟩:=b3 b8;obtain⟨_,A,rd⟩:=b4 (ez s.ext B.wf b9);have q:=ez j.ext s.wf ca;have z:=ez j.ext s.wf cb;have rx:=bq q A;have q:=br (ez t.ext j.wf z) (ez t.ext j.wf rd);exact b5 (ez J.ext t.wf rx) q
def ej (lv l:Int):Int:=8*2 ^ (lv-l).toNat-2
theorem qD (lv:Int):ej lv lv=6:=by
 unfold ej;rw[show(lv-lv).toNat=0 by omega];rfl
theorem oe {lv l:Int}(h:l<lv):ej lv l=2+2*ej lv (l+1):=by
 unfold ej;rw[show(lv-l).toNat=(lv-(l+1)).toNat+1 by omega,Int.pow_succ];omega
theorem n8 {lv l:Int}:6≤ej lv l:=by
 unfold ej;have:(0:Int)<2 ^ (lv-l).toNat:=Int.pow_pos (by decide);omega
def cA (w:World)(a:Option Addr)(rs:List (Int×Edge)):Prop:=
 ∀i r,rs[i]?=some r→(0≤r.1∧r.1≤255)∧r.2.ok∧∃b off,a=some ⟨b,off,none⟩∧w.cell? ⟨b,off+i*3,none⟩=some (.int .u8 r.1)∧w.cell? ⟨b,off+i*3+1,none⟩=some (.int .u8 r.2.tag)∧w.cell? ⟨b,off+i*3+2,none⟩=some (.int .u32 r.2.to)
theorem cA.ad {w w':World}{a:Option Addr}{rs:List (Int×Edge)}(h:cA w a rs)(j:ae w w'):cA w' a rs:=fun i r E=>by
 obtain⟨z,A,b,off,B,q,s,t⟩:=h i r E;exact⟨z,A,b,off,B,j.cell q,j.cell s,j.cell t⟩
def p9 (w:World)(a:Option Addr)(es:List Edge):Prop:=∀i e,es[i]?=some e→e.ok∧∃b off,a=some ⟨b,off,none⟩∧w.cell? ⟨b,off+i*2,none⟩=some (.int .u8 e.tag)∧w.cell? ⟨b,off+i*2+1,none⟩=some (.int .u32 e.to)
def cG (M:St):List (Int×Edge)→Int
 |[]=>0
 |r::rs=>if cJ M r.1 r.2 0=0 then cG M rs else cJ M r.1 r.2 0
theorem sg (M:St)(r:Int×Edge)(rs:List (Int×Edge)):cG M (r::rs)=if cJ M r.1 r.2 0=0 then cG M rs else cJ M r.1 r.2 0:=rfl
theorem zH {M:St}:∀{rs:List (Int×Edge)},cG M rs=0→∀r∈rs,(1≤r.1∧r.1≤5)∧M.leads r.1 r.2 0=true:=by
 intro rs;induction rs with
 |nil=>intro _ r q;cases q
 |cons E rs B=>
  intro h r q;unfold cG at h;split at h
  ·rename_i j;rcases List.mem_cons.1 q with rfl|q
   ·unfold cJ at j;split at j;·cases j
    ·rename_i z;split at j;·cases j
     ·split at j;·cases j
      ·rename_i A;have t:aR r.1=true:=by cases s:aR r.1 with|true=>rfl|false=>exact absurd s z
       unfold aR at t;exact⟨by simpa using t,by cases s:M.leads r.1 r.2 0 with|true=>rfl|false=>exact absurd s A⟩
   ·exact B h r q
  ·rename_i j;exact absurd h j
theorem zG (M:St):∀rs:List (Int×Edge),0≤cG M rs∧cG M rs≤4:=by
 intro rs;induction rs with
 |nil=>exact⟨Int.le_refl _,by show(0:Int)≤4;decide⟩
 |cons r rs j=>
  have:=sf M r.1 r.2 0;unfold cG;split;·exact j
  ·omega
theorem rZ {M:St}(h:M.wf)(f:Int)(e:Edge):cJ M f e 0=if aR f=false then 4 else if M.leads f e 0=false then 1 else 0:=by
 have:=h.n0;unfold cJ;rw[ag (show¬((0:Int)<0∨M.n<0) by omega)]
theorem tQ {F:Nat→Prop}{w:World}{sb:Nat}{M:St}(h:ak F w sb M)(a:Option Addr)(cap:Nat)(rs:List (Int×Edge))(al:cA w a rs)(a3:rs.length≤1048576) :
  Calls Tryz.prog 248 #[.pointer (some ⟨sb,0,none⟩),.slice a rs.length cap] w fun e w'=>e=.returned (.int .u8 (cG M rs))∧ae w w':=by
 have am:=aa (fun(f:Int) (v:Edge) (a5:v.ok) (J:World) (ab:ae w J)=>dF (h.ad ab) f v 0 a5)
 have aw:=aa h.wf
 obtain⟨z,Z⟩:∃z,z=rs.length:=⟨_,rfl⟩
 rw[←Z]at a3 ⊢
 have av:=aa al
 have ad:=aa Z
 clear h al Z
 go_enter Tryz.func248,Tryz.ntmps248
 go_wp2
 go_loopg [9] z (fun gk Z wr=>∃d:Nat,Z=.int .i64 (d:Int)∧d+gk=z∧cG M (rs.drop d)=cG M rs∧ae w wr)
 case atStart=>exact⟨0,rfl,by omega,rfl,kp⟩
 case round=>
  obtain⟨d,rfl,Z,j,O⟩:=hrel;have U:=aa j;clear j;by_cases a4:d<z
  ·obtain⟨r,E⟩:∃b,rs[d]?=some b:=⟨_,ar (by rw[←ad.out];exact a4)⟩;obtain⟨a0,B,b,off,rfl,W,X,Y⟩:=av.out d r E;replace W:=O.cell W;replace X:=O.cell X;replace Y:=O.cell Y
   have N:rs.drop d=r::rs.drop (d+1):=by
    obtain⟨hi,z⟩:=List.getElem?_eq_some_iff.1 E;rw[List.drop_eq_getElem_cons hi,z]
   have j:=U.out;rw[N]at j;rw[sg,rZ aw.out]at j;obtain⟨f,e⟩:=r;have q:=jg f;have s:=fun(J:World) (ab:ae w J)=>am.out f e B J ab;dsimp only at a0 B W X Y j;cases A:aR f with
   |false=>
    rw[A]at q j;have I:=aa q;have t:Hid (cG M rs=4):=aa (by rw[←j];simp);clear j q s N E B A;go_wp2_with (first|(go_at_call 100;refine(I.out _).mono ?_;rintro L w' ⟨rfl,rfl⟩)|fail)
    go_ret;exact⟨by rw[t.out];rfl,kp⟩
   |true=>
    rw[A]at q j;have I:=aa q;cases S:M.leads f e 0 with
    |false=>
     rw[S]at s j;have T:=aa s;have t:Hid (cG M rs=1):=aa (by rw[←j];simp);clear j q s N E B A S;go_wp2_with (first|(go_at_call 100;refine(I.out _).mono ?_;rintro L w' ⟨rfl,rfl⟩)|(go_at_call 134;refine(T.out _ kp).mono ?_;rintro L a6 ⟨rfl,a1⟩)|fail)
     go_ret;exact⟨by rw[t.out];rfl,kp⟩
    |true=>
     rw[S]at s j;have T:=aa s;have t:Hid (cG M (rs.drop (d+1))=cG M rs):=aa (by rw[←j];simp);clear j q s N E B A S;go_wp2_with (first|(go_at_call 100;refine(I.out _).mono ?_;rintro L w' ⟨rfl,rfl⟩)|(go_at_call 134;refine(T.out _ kp).mono ?_;rintro L a6 ⟨rfl,a1⟩)|fail)
     go_roundg (gk-1)
     case rel=>exact⟨d+1,by simp,by omega,t.out,kp⟩
     case measure=>omega
  ·have t:Hid (cG M rs=0):=aa (by rw[←U.out,List.drop_of_length_le (by rw[←ad.out];omega)];rfl);clear U;go_wp2_with fail;go_ret;exact⟨by rw[t.out];rfl,O⟩
theorem Di {F Fo:Nat→Prop}{w:World}{sb z:Nat}{M:St}{ps:List Int}(h:ak F w sb M)(E:ba Fo w z ps) :
  Calls Tryz.prog 212 #[.pointer (some ⟨sb,0,none⟩),.pointer (some ⟨z,0,none⟩)] w fun e w'=>e=.returned (.int .u8 (if M.n=(ps.length:Int)then 0 else 1))∧ae w w':=by
 have t:=aa (fun(z:World) (B:ae w z)=>dw (h.ad B))
 have s:=aa (fun(z:World) (B:ae w z)=>lC (E.ad B))
 have L:=h.wf.n0
 have N:=h.wf.bw
 have O:=E.le
 obtain⟨j,I⟩:∃j,j=ps.length:=⟨_,rfl⟩
 obtain⟨n,J⟩:∃n,n=M.n:=⟨_,rfl⟩
 rw[←I]at s O ⊢
 rw[←J]at t L N ⊢
 clear h E I J
 by_cases q:n=(j:Int)
 ·rw[ah q];subst q;go_enter Tryz.func212,Tryz.ntmps212;go_wp2_with (first|(go_at_call 48;refine(t.out _ kp).mono ?_;rintro A w' ⟨rfl,rfl⟩)|(go_at_call 99;refine(s.out _ kp).mono ?_;rintro A w' ⟨rfl,rfl⟩)|fail)
  go_ret;exact⟨rfl,kp⟩
 ·rw[ag q];have z:(n !=(j:Int))=true:=by simp[q]
  go_enter Tryz.func212,Tryz.ntmps212;go_wp2_with (first|(go_at_call 48;refine(t.out _ kp).mono ?_;rintro A w' ⟨rfl,rfl⟩)|(go_at_call 99;refine(s.out _ kp).mono ?_;rintro A w' ⟨rfl,rfl⟩)|fail)
  go_ret;exact⟨rfl,kp⟩
structure p' (f g:Int)(M:St)(e:Edge)(l:Int)(x:Edge):Prop where
 h7:aJ g M (M.n-l).toNat (cm M f e l) l x
 right:cu M g x l
 ok:x.ok
 own:cu M f e l→aJ f M (M.n-l).toNat (cm M f e l) l e
section
variable {f g:Int}{M:St}{V:List (Edge×Int)}{e:Edge}{l:Int}
theorem ya (z:M.wf)(A:1≤f∧f≤5)(q:1≤g∧g≤5)(E:M.leads f e l=true)(s:0≤l)(j:e.to=0):p' f g M e l ⟨0,0⟩:=by
 obtain⟨J,U⟩:=a9.1 E;obtain⟨U,W,N,O,S,T,E,X⟩:=bK.1 J
 have L:e=⟨0,0⟩:=by
  have:=E (.inr j);cases e;simp only at j this;rw[j,this]
 have t:l+((M.n-l).toNat:Int)=M.n:=by omega
 have I:M.leads g ⟨0,0⟩ l=true:=a9.2 ⟨bK.2 ⟨q.1,q.2,N,O,S,T,fun _=>rfl,fun _ B=>absurd rfl B⟩,.inl (by show(0:Int)<2;omega)⟩;refine⟨by rw[pM j];exact rF z q _ l s t,(mP I).2 (fun _=>o4 (fh (by decide))),ff,fun _=>by rw[pM j,L];exact rF z A _ l s t⟩
theorem xZ (s:M.wf)(T:1≤f∧f≤5)(U:1≤g∧g≤5)(J:e.ok)(L:M.leads f e l=true)(q:l=M.n)(E:e.to≠0):p' f g M e l (cY g true M.n):=by
 obtain⟨N,A⟩:=a9.1 L;obtain⟨L,T,U,W,X,Y,O,S⟩:=bK.1 N
 have j:e.to=1:=by
  have:=J.2.1;rcases A with A|⟨r,a,b,c,d⟩;·omega
  ·have g:=s.b6 a;have:=g.tb;have:=g.bn;omega
 have I:e=cY f true M.n:=by
  unfold cY;rw[ah rfl];split
  ·rename_i t;have:=S t E;cases e;simp only at j this;rw[j];congr 1
   omega
  ·rename_i t;have:=O (.inl t);cases e;simp only at j this;rw[j,this]
 have B:cm M f e l=[true]:=tT E q.symm;have z:(M.n-l).toNat=0:=by omega
 refine⟨?_,?_,qN (by have:=s.n0;omega) (by have:=s.bw;omega),fun _=>?_⟩;·rw[B,z,q];exact⟨true,rfl,rfl⟩
 ·rw[q];exact qO s
 ·rw[B,z,q];exact⟨true,rfl,I⟩
end
theorem ze:laidOutB Tryz.prog=true:=by kernel_rfl
theorem DZ:2≤Tryz.prog.types.size:=of_decide_eq_true (by kernel_rfl)
theorem DY:∃d,Tryz.prog.types.size=d+2:=⟨Tryz.prog.types.size-2,by have:=DZ;omega⟩
def eV (x:Edge):DataW Unit:=.agg [.lit (.int .u8 x.tag),.lit (.int .u32 x.to)]
def iZ (v:Value):Option (DataW Unit×List MemPlace):=
 match v with
 |.agg a=>match a.toList with
  |[.int .u8 j,.int .u32 n]=>some (eV ⟨j,n⟩,[])
  |_=>none
 |_=>none
theorem qL (x:Edge):iZ (.agg #[.int .u8 x.tag,.int .u32 x.to])=some (eV x,[]):=rfl
theorem qK {x y:Edge}(h:eV x=eV y):x=y:=by
 unfold eV at h;cases x;cases y;simp at h;obtain⟨a,b⟩:=h;subst a b;rfl
theorem xz {v:Value}{x:Edge}{ps:List MemPlace}(h:iZ v=some (eV x,ps)):v=.agg #[.int .u8 x.tag,.int .u32 x.to]:=by
 unfold iZ at h;split at h
 ·rename_i a;split at h
  ·rename_i s n q;have j:=qK (congrArg Prod.fst (Option.some.inj h));subst j;show Value.agg a=.agg #[.int .u8 s,.int .u32 n];congr 1
   exact Array.toList_inj.1 q
  ·cases h
 ·cases h
theorem Et (w:World):(zeroValue 52).run Tryz.prog w=.ok (.agg #[.int .u8 (⟨0,0⟩:Edge).tag,.int .u32 (⟨0,0⟩:Edge).to]) w:=by kernel_rfl
theorem ml {M:St}{f l:Int}{lo hi:Edge}(q:1≤f∧f≤5):eH M f l lo hi=ay f M l lo hi:=by
 have j:f=1∨f=2∨f=3∨f=4∨f=5:=by omega
 rcases j with rfl|rfl|rfl|rfl|rfl<;>rfl
theorem mA {f:Int}{M:St}{l:Int}{lo hi:Edge}(h:M.wf)(q:M.cs.length≤1048576)(s:lo.ok)(A:hi.ok)(t:0≤l)(z:l≤255)(B:1≤f∧f≤5):(aL f M (ay f M l lo hi)).ok:=by
 have j:f=1∨f=2∨f=3∨f=4∨f=5:=by omega
 rcases j with rfl|rfl|j|j|j
 ·rw[gE];show(eD M _).ok;unfold az cW;repeat' split
  all_goals first|exact ff|exact s|exact jx h q 0 (by omega) _
 ·rw[gF];show(eD M _).ok;unfold az dc;repeat' split
  all_goals first|exact ff|exact s|exact jx h q 0 (by omega) _
 ·have e:ay f M l lo hi=du f M l lo hi:=by subst j;rfl
  rw[e];exact oW h q s A t z (.inl j)
 ·have e:ay f M l lo hi=du f M l lo hi:=by subst j;rfl
  rw[e];exact oW h q s A t z (.inr (.inl j))
 ·have e:ay f M l lo hi=du f M l lo hi:=by subst j;rfl
  rw[e];exact oW h q s A t z (.inr (.inr j))
theorem oJ {f:Int}(q:1≤f∧f≤5){M:St}{e:Edge}{l:Int}:fP M f e l=aj M f e l:=by
 have j:f=1∨f=2∨f=3∨f=4∨f=5:=by omega
 rcases j with rfl|rfl|rfl|rfl|rfl<;>rfl
theorem iu {F:Nat→Prop}{w0 wc q:World}{fn:FuncId}{args:Array Value}{Q:Ending→World→Prop}{R:World→Prop}(A:∀k,F k→k<w0.heap.size)(B:w0.heap.size≤wc.heap.size)
  (h:Calls Tryz.prog fn args q fun r w'=>Q r w'∧af F q w'∧R w') :
  Calls Tryz.prog fn args q fun r w'=>(Q r w'∧af F q w'∧R w')∧(∀j o,wc.heap.size≤j→j<q.heap.size→w'.cell? ⟨j,o,none⟩=q.cell? ⟨j,o,none⟩)∧(∀j o,wc.heap.size≤j→j<q.heap.size→w'.frozen? ⟨j,o,none⟩=q.frozen? ⟨j,o,none⟩)∧(∀j,j<q.heap.size→j<w'.heap.size)∧(∀j,j<q.heap.size→¬j=w'.heap.size)∧(∀j,j<q.heap.size→¬w'.heap.size=j):=by
 refine h.mono fun r w' s=>⟨s,fun j o q t=>?_,fun j o q t=>?_,fun j q=>by have:=s.2.1.size;omega,fun j q=>by have:=s.2.1.size;omega,fun j q=>by have:=s.2.1.size;omega⟩
 ·have:=s.2.1.block j t (fun z=>by have:=A _ z;omega);simp only[World.cell?,this]
 ·exact World.frozen?_of_block (a:=⟨j,o,none⟩) (s.2.1.block j t (fun z=>by have:=A _ z;omega))
structure gY (F:Nat→Prop)(w0 wy:World)(sb:Nat)(M1:St)(B C:Nat)(lo hi:Edge)(F1:Nat→Prop):Prop where
 a0:wy.cell? ⟨B,0,none⟩=some (.int .u8 lo.tag)
 a1:wy.cell? ⟨B,1,none⟩=some (.int .u32 lo.to)
 c0:wy.cell? ⟨C,0,none⟩=some (.int .u8 hi.tag)
 c1:wy.cell? ⟨C,1,none⟩=some (.int .u32 hi.to)
 av:af F w0 wy
 a8:ak F1 wy sb M1
 sub:∀j,F1 j→F j∨w0.heap.size≤j
 nB:¬F1 B
 nC:¬F1 C
 gB:w0.heap.size≤B
 gC:w0.heap.size≤C
theorem af.b9 {F G:Nat→Prop}{a b c:World}(h:af F a b)(k:af G b c)(q:∀i,i<a.heap.size→G i→F i):af F a c:=
 ⟨k.os.trans h.os,k.tape.trans h.tape,k.output.trans h.output,eF h.size k.size,fun i hi j=>(k.block i (bI hi h.size) (fun s=>j (q i hi s))).trans (h.block i hi j)⟩
theorem jY {F:Nat→Prop}{w0 s j z:World}{sb:Nat}{I:St}{q C:Nat}{lo hi:Edge}(W:∀k,F k→k<w0.heap.size)(L:ae w0 s)(X:af F s j)(hS:ak (aC F s j) j sb I)(J:af (fun k=>k=q∨k=C) j z)
  (B:w0.heap.size≤q∧(q<s.heap.size∨j.heap.size≤q)) (E:w0.heap.size≤C∧(C<s.heap.size∨j.heap.size≤C)) (O:z.cell? ⟨q,0,none⟩=some (.int .u8 lo.tag)) (S:z.cell? ⟨q,1,none⟩=some (.int .u32 lo.to))
  (T:z.cell? ⟨C,0,none⟩=some (.int .u8 hi.tag)) (U:z.cell? ⟨C,1,none⟩=some (.int .u32 hi.to)):gY F w0 z sb I q C lo hi (aC F s j):=by
 have z:=L.size
 have no:∀z,(w0.heap.size≤z∧(z<s.heap.size∨j.heap.size≤z))→¬aC F s j z:=fun z j t=>by
  rcases t with t|t;·have:=W _ t;omega
  ·omega
 refine⟨O,S,T,U,((ae.av L F).bg X).b9 J (fun i hi t=>?_),hS.a4 J (fun k N t=>?_),fun j A=>?_,no q B,no C E,B.1,E.1⟩
 ·rcases t with rfl|rfl<;>omega
 ·rcases t with rfl|rfl;·exact no _ B N
  ·exact no _ E N
 ·rcases A with A|A;·exact .inl A
  ·exact .inr (by omega)
section
variable {F:Nat→Prop}{w:World}{sb wb b:Nat}{f g:Int}{M:St}{V:List (Edge×Int)}{D:DataW Unit}
theorem lM {R:Nat}{x y:World}(h:af (fun j=>j=R) x y)(o:Nat)(v:Value):af (fun j=>j=R) x (y.setCell ⟨R,o,none⟩ v):=h.setCell (Or.inl rfl) v
theorem xO {M:St}(h:M.wf)(r:Rec):aD M (M.a7 r):=by
 cases hi:M.bD r with
 |some id=>
  rw[(k8 h (jA hi)).2.2];exact aD.refl M
 |none=>
  cases j:M.br r with
  |true=>
   have:M.a7 r=M:=(by unfold St.a7;rw[hi];simp[j]);rw[this];exact aD.refl M
  |false=>
   by_cases q:M.a' r=0;·exact(j7 h j q).2.1
   ·rw[(mg j q).2.1];exact aD.refl M
theorem uE {M:St}(h:M.wf)(a:(Edge×Int) ⊕ Rec):aD M (aX M a):=by
 cases a with
 |inl x=>exact aD.refl M
 |inr r=>exact xO h r
end
def cB (w:World)(g:Nat)(es:List Edge):Prop:=∃j:Array Value,w.heap[g]?=some (.cells j 52 (0,0))∧∀(i:Nat) (e:Edge),es[i]?=some e→j[i*2]?=some (Value.int .u8 e.tag)∧j[i*2+1]?=some (Value.int .u32 e.to)
theorem cB.cell {w:World}{g:Nat}{es:List Edge}(h:cB w g es){i:Nat}{e:Edge}(s:es[i]?=some e):w.cell? ⟨g,i*2,none⟩=some (.int .u8 e.tag)∧w.cell? ⟨g,i*2+1,none⟩=some (.int .u32 e.to):=by
 obtain⟨t,j,q⟩:=h;obtain⟨a,b⟩:=q i e s;exact⟨by rw[cell_of_row w g _ _ _ _ j];simp only[a],by rw[cell_of_row w g _ _ _ _ j];simp only[b]⟩
theorem cB.frozen {w:World}{g:Nat}{es:List Edge}(h:cB w g es)(i:Nat):w.frozen? ⟨g,i,none⟩=false:=by
 obtain⟨q,j,s⟩:=h;exact frozen_of_row w g i _ _ j
theorem cB.lt {w:World}{g:Nat}{es:List Edge}(h:cB w g es):g<w.heap.size:=by
 obtain⟨q,j,s⟩:=h;exact aM j
theorem cB.a4 {G:Nat→Prop}{w w':World}{g:Nat}{es:List Edge}(h:cB w g es)(A:af G w w')(t:¬G g):cB w' g es:=by
 have z:=h.lt;obtain⟨j,q,s⟩:=h;exact⟨j,(A.block g z t).trans q,s⟩
theorem cB.ad {w w':World}{g:Nat}{es:List Edge}(h:cB w g es)(j:ae w w'):cB w' g es:=h.a4 (j.av (fun _=>False)) (fun h=>h)
theorem cB.at {w:World}{g:Nat}{es:List Edge}(h:cB w g es)(q:∀e∈es,e.ok):p9 w (some ⟨g,0,none⟩) es:=fun i e j=>⟨q e (bB j),g,0,rfl,by rw[dK];exact(h.cell j).1,by rw[dK];exact(h.cell j).2⟩
theorem cB.set {w:World}{g:Nat}{es:List Edge}(h:cB w g es)(i:Nat)(e:Edge)(hi:i<es.length):cB ((w.setCell ⟨g,i*2,none⟩ (.int .u8 e.tag)).setCell ⟨g,i*2+1,none⟩ (.int .u32 e.to)) g (es.set i e):=by
 obtain⟨A,z,q⟩:=h;have A:=Go.heap_setCell_same w g (i*2) _ _ (.int .u8 e.tag) z;refine⟨_,Go.heap_setCell_same _ g (i*2+1) _ _ (.int .u32 e.to) A,fun t x j=>?_⟩;obtain⟨a,b⟩:=q i es[i] (by simp[hi]);have B:=(Array.getElem?_eq_some_iff.1 a).1;have E:=(Array.getElem?_eq_some_iff.1 b).1;by_cases s:i=t
 ·subst s;simp[hi]at j;subst j;constructor;·rw[dA,ag (by omega),dA,ah rfl,ah B]
  ·rw[dA,ah rfl,ah (by simpa using E)]
 ·rw[fK s]at j;obtain⟨c,d⟩:=q t x j;constructor
  ·rw[dA,ag (by omega),dA,ag (by omega)];exact c
  ·rw[dA,ag (by omega),dA,ag (by omega)];exact d
theorem oH:(Tryz.prog.info? 52).map (fun i=>(i.zero,i.size,i.bytes))=some (some (.agg #[.int .u8 0,.int .u32 0]),2,8):=by kernel_rfl
theorem sY {w:World}{s n:Nat}(h:w.ownsRow s 52 2 (.slice (some ⟨s,0,none⟩) n n) n (madeCells (Value.agg #[.int .u8 0,.int .u32 0]).cells (n*2)).toList):cB w s (List.replicate n ⟨0,0⟩):=by
 obtain⟨N,O⟩:=bF h (k:=s) rfl;rcases h.2 with⟨B,_⟩|⟨N,s,t,L,O,I,_,_,S,J⟩
 ·cases B
 ·cases L
  have key:∀j,j<n*2→t[j]?=some (if j%2=0 then Value.int .u8 0 else Value.int .u32 0):=fun j A=>by
   have z:(madeCells (Value.agg #[.int .u8 0,.int .u32 0]).cells (n*2)).toList[j]?=some (if j%2=0 then Value.int .u8 0 else Value.int .u32 0):=by
    simp[madeCells,Value.cells,A];rcases Nat.mod_two_eq_zero_or_one j with q|q;·rw[q];rfl
    ·rw[q];rfl
   rw[←J,ju,ah A,Array.getElem?_toList]at z;exact z
  refine⟨t,I,fun i e j=>?_⟩;have hi:i<n:=by simpa using(List.getElem?_eq_some_iff.1 j).1
  have E:e=⟨0,0⟩:=by
   rw[List.getElem?_replicate,ah hi]at j;exact(Option.some.inj j).symm
  subst E;constructor;·rw[key _ (by omega),ah (by omega)]
  ·rw[key _ (by omega),ag (by omega)]
open Go.ChangeShapes Go.WideShapes Go.ChangeAt Go.RowKit
def ni (w:World)(a:Option Addr)(len:Nat)(ps:List Int):Prop:=ps.length=len∧bH w a ps∧∀x∈ps,(Lit.int .i64 x).wf=true
def nj (w:World)(a:Option Addr)(len:Nat)(rs:List (Int×Edge)):Prop:=rs.length=len∧cA w a rs
theorem Ah {H:Type}{enc:TypeId×Value→H}{t:World}{E:Nat}{J:Nat→Bool}{held:Bool}{a:Option Addr}{len cap:Nat}{d:DataW H}{p:List MemPlace}
  (h:DataW.Trod enc Tryz.prog t E J held 22 (.slice a len cap) d p):∃ps:List Int,ni t a len ps:=by
 obtain⟨rs,j,q⟩:=o6 (k:=1) (fun(r:Int) cs=>(Lit.int .i64 r).wf=true∧cs=[.int .i64 r]) Tryz.underlying22 (by kernel_rfl) (by decide) (fun n cs x s=>by
  obtain⟨r,j,_,q⟩:=DataW.trod_int Tryz.underlying3 s
  exact⟨by rw[j];rfl,r,q,j⟩) h
 refine⟨rs,j,fun i r I=>?_,fun x s=>?_⟩
 ·obtain⟨b,off,cs,z,⟨B,rfl⟩,A⟩:=q i r I;have:=A 0 (by decide);rw[Nat.mul_one,gA]at this;exact⟨b,off,z,this⟩
 ·obtain⟨i,hi⟩:=List.mem_iff_getElem?.1 s;obtain⟨b,off,cs,z,⟨B,rfl⟩,A⟩:=q i x hi;exact B
instance:Inhabited (Int×Edge):=⟨(0,Edge.zero)⟩
end Go.Proofs.YtafkamlhimkbmaaGreat
