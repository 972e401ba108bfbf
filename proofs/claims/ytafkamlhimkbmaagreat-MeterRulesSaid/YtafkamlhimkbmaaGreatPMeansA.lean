/-
  Plainly: what an edge means, level by level; View tells the two halves of what it means.
-/
import Derived.Test.YtafkamlhimkbmaaGreatPHoldsX
import Derived.Test.YtafkamlhimkbmaaGreatPKPlain
namespace Go.Proofs.YtafkamlhimkbmaaGreat
set_option maxRecDepth 1000000
set_option maxHeartbeats 8000000
set_option linter.unusedSimpArgs false
set_option linter.unusedVariables false
def aW (M:St)(f l:Int)(e:Edge):Prop:=l≤M.n∧(e.to<2∨∃r,look M.cs e.to=some r∧r.ad=f∧l≤r.top)
theorem aW.of {M:St}{f l:Int}{e:Edge}(h:M.leads f e l=true):aW M f l e:=by
 obtain⟨s,t⟩:=bf.1 h;obtain⟨z,D,E,I,J,u,N,O⟩:=bK.1 s;exact⟨u,t.imp id (fun⟨r,a,b,c,_⟩=>⟨r,a,b,c⟩)⟩
theorem aW.next {M:St}{f l:Int}{e:Edge}(t:aW M f l e)(u:l<M.n):(look M.cs e.to=none∧aW M f (l+1) e)∨∃r,look M.cs e.to=some r∧r.ad=f∧((l<r.top∧aW M f (l+1) e)∨l=r.top):=by
 obtain⟨u,s⟩:=t;rcases s with s|⟨r,a,b,c⟩;·exact .inl ⟨fq s,by omega,.inl s⟩
 ·right;refine⟨r,a,b,?_⟩;by_cases s:l<r.top;·exact .inl ⟨s,by omega,.inr ⟨r,a,b,by omega⟩⟩
  ·exact .inr (by omega)
theorem fH {M:St}{f x l:Int}{e:Edge}(s:e.to=0):∀K,hS M f x K l e=false:=by
 intro K;cases K with
 |zero=>show decide (e.to≠0)=false;simp[s]
 |succ K=>show(if e.to=0 then false else _)=false;rw[ai s]
theorem fG {M:St}{f x l:Int}{e:Edge}(s:e.to≠0)(t:M.n≤l):∀K,hS M f x K l e=true:=by
 intro K;cases K with
 |zero=>exact bM s
 |succ K=>show(if e.to=0 then false else if M.n≤l then true else _)=true;rw[ag s,ai t]
theorem dP {M:St}{f x l:Int}{e:Edge}{K:Nat}(u:e.to≠0)(z:l<M.n)(s:look M.cs e.to=none∨∃r,look M.cs e.to=some r∧l<r.top):hS M f x (K+1) l e=(if ct f e l&&aO x l then false else hS M f x K (l+1) e):=by
 show(if e.to=0 then false else if M.n≤l then true else match look M.cs e.to with|none=>_|some r=>_)=_;rw[ag u,ag (by omega)];rcases s with s|⟨r,s,t⟩;·rw[s]
 ·rw[s];simp only[];rw[ai t]
theorem gL {M:St}{f x l:Int}{e:Edge}{r:Rec}{K:Nat}(u:l<M.n)(s:look M.cs e.to=some r)(t:¬l<r.top):hS M f x (K+1) l e=hS M f x K (r.J+1) (bL x r):=by
 have u:e.to≠0:=by have:=(cC s).1;omega
 show(if e.to=0 then false else if M.n≤l then true else match look M.cs e.to with|none=>_|some r=>_)=_;rw[ag u,ag (by omega),s];simp only[];rw[ag t]
theorem ld {M:St}(h:M.wf){f x:Int}{e:Edge}{r:Rec}(t:look M.cs e.to=some r)(s:r.ad=f):aW M f (r.J+1) (bL x r):=by
 have:=yJ h t (x:=x);rw[s]at this;exact aW.of this
theorem tW {M:St}(h:M.wf){f x:Int}:∀(K t:Nat) (l:Int) (e:Edge),aW M f l e→M.n-l≤(K:Int)→M.n-l≤(t:Int)→hS M f x K l e=hS M f x t l e:=by
 intro K;induction K with
 |zero=>
  intro t l e I u z;by_cases s:e.to=0;·rw[fH s,fH s]
  ·rw[fG s (by omega),fG s (by omega)]
 |succ K E=>
  intro t l e I u z;by_cases s:e.to=0;·rw[fH s,fH s]
  ·by_cases D:M.n≤l;·rw[fG s D,fG s D]
   ·cases t with
    |zero=>omega
    |succ t=>
     push_cast at u z;rcases I.next (by omega)with⟨u,D⟩|⟨r,u,I,⟨z,D⟩|z⟩
     ·rw[dP s (by omega) (.inl u),dP s (by omega) (.inl u),E t (l+1) e D (by omega) (by omega)]
     ·rw[dP s (by omega) (.inr ⟨r,u,z⟩),dP s (by omega) (.inr ⟨r,u,z⟩),E t (l+1) e D (by omega) (by omega)]
     ·have s:=(h.b4 u).tb;rw[gL (by omega) u (by omega),gL (by omega) u (by omega),E t _ _ (ld h u I) (by omega) (by omega)]
theorem ss {x s:Int}:∀(n:Nat) (a:Int),(∀j,a≤j→aO x j=aO s j)→dM x a n=dM s a n:=by
 intro n;induction n with
 |zero=>intro a _;rfl
 |succ n u=>
  intro a t;show(!aO x a&&dM x (a+1) n)=(!aO s a&&dM s (a+1) n);rw[t a (Int.le_refl _),u (a+1) (fun j s=>t j (by omega))]
theorem tU {M:St}(h:M.wf){f x J:Int}:∀(K:Nat) (l:Int) (e:Edge),aW M f l e→(∀j,l≤j→aO x j=aO J j)→hS M f x K l e=hS M f J K l e:=by
 intro K;induction K with
 |zero=>intro l e _ _;rfl
 |succ K I=>
  intro l e E u;by_cases t:e.to=0;·rw[fH t,fH t]
  ·by_cases D:M.n≤l;·rw[fG t D,fG t D]
   ·rcases E.next (by omega)with⟨s,E⟩|⟨r,s,N,⟨D,E⟩|D⟩
    ·rw[dP t (by omega) (.inl s),dP t (by omega) (.inl s),u l (Int.le_refl _),I (l+1) e E (fun j z=>u j (by omega))]
    ·rw[dP t (by omega) (.inr ⟨r,s,D⟩),dP t (by omega) (.inr ⟨r,s,D⟩),u l (Int.le_refl _),I (l+1) e E (fun j z=>u j (by omega))]
    ·have t:=(h.b4 s).tb
     have hs:bL x r=bL J r:=by
      unfold bL dU;rw[ss _ r.top (fun j z=>u j (by omega)),u r.J (by omega)]
     rw[gL (by omega) s (by omega),gL (by omega) s (by omega),hs,I _ _ (ld h s N) (fun j z=>u j (by omega))]
theorem tV {M M':St}(h:M.wf)(D:aP M M'){f x:Int}:∀(K:Nat) (l:Int) (e:Edge),aW M f l e→hS M' f x K l e=hS M f x K l e:=by
 intro K;have Q:=D.n;induction K with
 |zero=>intro l e _;rfl
 |succ K J=>
  intro l e N;by_cases t:e.to=0;·rw[fH t,fH t]
  ·by_cases Q:M.n≤l;·rw[fG t Q,fG t (by omega)]
   ·have T:=N;rcases N.next (by omega)with⟨s,I⟩|⟨r,s,O,⟨E,I⟩|E⟩
    ·have u:look M'.cs e.to=none:=by
      rcases T.2 with z|⟨r,z,_⟩;·exact fq z
      ·rw[s]at z;cases z
     rw[dP t (by omega) (.inl s),dP t (by omega) (.inl u),J (l+1) e I]
    ·have u:=D.sub _ _ s;rw[dP t (by omega) (.inr ⟨r,s,E⟩),dP t (by omega) (.inr ⟨r,u,E⟩),J (l+1) e I]
    ·have u:=D.sub _ _ s;rw[gL (by omega) s (by omega),gL (by omega) u (by omega),J _ _ (ld h s O)]
theorem tX {M:St}{f x:Int}:∀(K:Nat) (l:Int) (e e':Edge),aW M f l e→e.to=e'.to→(∀j,l≤j→ct f e j=ct f e' j)→hS M f x K l e=hS M f x K l e':=by
 intro K;induction K with
 |zero=>intro l e e' _ s _;show decide (e.to≠0)=decide (e'.to≠0);rw[s]
 |succ K J=>
  intro l e e' D s z;by_cases u:e.to=0;·rw[fH u,fH (s ▸ u)]
  ·have I:e'.to≠0:=s ▸ u;by_cases t:M.n≤l;·rw[fG u t,fG I t]
   ·rcases D.next (by omega)with⟨t,E⟩|⟨r,t,N,⟨D,E⟩|D⟩
    ·rw[dP u (by omega) (.inl t),dP I (by omega) (.inl (s ▸ t)),z l (Int.le_refl _),J (l+1) e e' E s (fun j N=>z j (by omega))]
    ·rw[dP u (by omega) (.inr ⟨r,t,D⟩),dP I (by omega) (.inr ⟨r,s ▸ t,D⟩),z l (Int.le_refl _),J (l+1) e e' E s (fun j N=>z j (by omega))]
    ·rw[gL (by omega) t (by omega),gL (by omega) (s ▸ t) (by omega)]
def tv (M:St)(f x l:Int)(e:Edge):Bool:=hS M f x (M.n-l).toNat l e
theorem eZ {M M':St}(h:M.wf)(s:aP M M'){f x l:Int}{e:Edge}(t:aW M f l e):tv M' f x l e=tv M f x l e:=by
 unfold tv;rw[s.n];exact tV h s _ l e t
theorem zH {M:St}(h:M.wf){f x s l:Int}{e:Edge}(u:aW M f l e)(t:∀j,l≤j→aO x j=aO s j):tv M f x l e=tv M f s l e:=tU h _ l e u t
theorem cQ {M:St}{f x l:Int}{e:Edge}(s:e.to=0):tv M f x l e=false:=fH s _
theorem qh {M:St}{f x l:Int}{e:Edge}(t:e.to≠0)(s:M.n≤l):tv M f x l e=true:=fG t s _
theorem ix {M:St}{f x l:Int}{e:Edge}(u:e.to≠0)(t:l<M.n)(s:look M.cs e.to=none∨∃r,look M.cs e.to=some r∧l<r.top):tv M f x l e=(if ct f e l&&aO x l then false else tv M f x (l+1) e):=by
 unfold tv;rw[show(M.n-l).toNat=(M.n-(l+1)).toNat+1 by omega];exact dP u t s
theorem iw {M:St}(h:M.wf){f x l:Int}{e:Edge}{r:Rec}(u:l<M.n)(s:look M.cs e.to=some r)(t:r.ad=f)(z:¬l<r.top)(D:r.top=l):tv M f x l e=tv M f x (r.J+1) (bL x r):=by
 have D:=(h.b4 s).tb;unfold tv;rw[show(M.n-l).toNat=(M.n-(l+1)).toNat+1 by omega,gL u s z];exact tW h _ _ _ _ (ld h s t) (by omega) (by omega)
theorem qk {M:St}{f x l:Int}{e e':Edge}(u:aW M f l e)(t:e.to=e'.to)(s:∀j,l≤j→ct f e j=ct f e' j):tv M f x l e=tv M f x l e':=tX _ l e e' u t s
theorem qi {M:St}{f x:Int}{e:Edge}(s:f=3){b:Int}(z:b≤M.n)(t:e.to<2∨∃r,look M.cs e.to=some r∧b≤r.top):∀(d:Nat) (l:Int),l+(d:Int)=b→tv M f x l e=tv M f x b e:=by
 subst s;intro d;induction d with
 |zero=>intro l s;rw[show l=b by omega]
 |succ d u=>
  intro l s;push_cast at s;by_cases s:e.to=0;·rw[cQ s,cQ s]
  ·rw[ix s (by omega) (t.imp fq (fun⟨r,a,c⟩=>⟨r,a,by omega⟩)),show ct 3 e l=false from rfl,Bool.false_and,u (l+1) (by omega)];rfl
theorem nQ {M:St}(h:M.wf){r:Rec}(t:M.b2 r=false)(he:M.bh r=0) :
  look (M.ba r).cs (M.bs r)=some r∧aP M (M.ba r)∧(M.ba r).wf∧2≤M.bs r∧(M.ba r).len≤M.len+1∧(M.ba r).a7=M.a7:=by
 cases hi:M.b9 r with
 |some id=>
  have s:=(ks h.b5 r id).2 hi;obtain⟨a,b,c⟩:=nN h s;rw[b,c];exact⟨s,aP.refl M,h,(cC s).1,by omega,rfl⟩
 |none=>
  have u:M.len<M.a7:=by
   unfold St.bh at he;rw[hi]at he;simp only[]at he;rw[ag (by rw[t];simp)]at he;split at he;·cases he
   ·omega
  obtain⟨a,b,c,d,e,g⟩:=jJ h t u;have s:=lQ h t u;exact⟨b,s.ext,s.wf,g,s.len,s.a7⟩
theorem nM {M:St}{r:Rec}(t:M.b2 r=false)(he:M.bh r≠0):M.bh r=6∧M.ba r=M∧M.a7≤M.len:=by
 unfold St.bh at he ⊢;unfold St.ba;cases hi:M.b9 r with
 |some id=>rw[hi]at he;exact absurd rfl he
 |none=>
  rw[hi]at he;simp only[]at he ⊢;rw[ag (by rw[t];simp)]at he ⊢;split at he
  ·rename_i s;rw[ai s,ag (by rw[t];simp),ai s];exact⟨rfl,rfl,s⟩
  ·exact absurd rfl he
structure hQ (f:Int)(M:St)(l:Int)(e:Edge)(M':St)(lo hi:Edge):Prop where
 ext:aP M M'
 wf:M'.wf
 len:M'.len≤M.len+1
 a7:M'.a7=M.a7
 fi:M'.leads f lo (l+1)=true
 fg:M'.leads f hi (l+1)=true
 eA:∀x,tv M f x l e=tv M' f x (l+1) (if aO x l then hi else lo)
theorem oB {M:St}{f l l':Int}{e:Edge}(h:M.leads f e l=true)(h0:0≤l')(s:l'≤M.n):M.leads f ⟨0,0⟩ l'=true:=by
 obtain⟨u,z⟩:=bf.1 h;obtain⟨z,D,E,I,J,N,O,Q⟩:=bK.1 u;exact bf.2 ⟨bK.2 ⟨z,D,E,I,h0,s,fun _=>rfl,fun _ t=>absurd rfl t⟩,.inl (by show(0:Int)<2;omega)⟩
theorem qp {f:Int}{M:St}(h:M.wf){l:Int}{e:Edge}(D:M.leads f e l=true)(z:l<M.n)(s:look M.cs e.to=none∨∃r,look M.cs e.to=some r∧l<r.top)(O:¬(f=5∧(e.to=0∨l<e.tag))) :
  hQ f M l e M (aZ f l e).1 (aZ f l e).2.1∧(aZ f l e).2.2=0:=by
 have ax:=D
 obtain⟨ad,J⟩:=bf.1 D
 obtain⟨Q,T,U,V,ax,ay,av,a0⟩:=bK.1 ad
 have al:=aW.of D
 have am:aW M f (l+1) e:=by
  rcases al.next z with⟨_,q⟩|⟨r,E,_,⟨_,q⟩|q⟩
  ·exact q
  ·exact q
  ·rcases s with s|⟨aw,s,ab⟩;·rw[s]at E;cases E
   ·rw[s]at E;cases E;omega
 have I:e.to<2∨∃r,look M.cs e.to=some r∧r.ad=f∧l+1≤r.top∧e.tag≤r.top:=by
  rcases J with J|⟨r,a,b,c,d⟩;·exact .inl J
  ·rcases s with s|⟨aw,s,ab⟩;·rw[s]at a;cases a
   ·rw[s]at a;cases a;exact .inr ⟨_,s,b,by omega,d⟩
 have N:=oB D (l':=l+1) (by omega) (by omega)
 have X:f=1∨f=2∨f=3∨f=4∨f=5:=by omega
 have plain:f≠5→M.leads f e (l+1)=true:=fun t=>bf.2 ⟨bK.2 ⟨Q,T,U,V,by omega,by omega,av,fun a=>absurd a t⟩,I⟩
 have free:(f=1∨f=3)→∀x,tv M f x l e=tv M f x (l+1) (if aO x l then e else e):=fun t x=>by
  rw[ite_self];by_cases u:e.to=0;·rw[cQ u,cQ u]
  ·rw[ix u z s];have:ct f e l=false:=by rcases t with rfl|rfl<;>rfl
   rw[this,Bool.false_and];rfl
 have zero:(f=2∨f=4)→∀x,tv M f x l e=tv M f x (l+1) (if aO x l then⟨0,0⟩else e):=fun t x=>by
  by_cases u:e.to=0
  ·rw[cQ u];split;·rw[cQ rfl]
   ·rw[cQ u]
  ·rw[ix u z s];have:ct f e l=true:=by rcases t with rfl|rfl<;>rfl
   rw[this,Bool.true_and];cases W:aO x l with
   |true=>rw[ai rfl,ai rfl,cQ rfl]
   |false=>rw[ag (by simp),ag (by simp)]
 unfold aZ
 rcases X with rfl|rfl|rfl|rfl|rfl
 ·rw[ai (.inl rfl)];exact⟨⟨aP.refl _,h,by omega,rfl,plain (by omega),plain (by omega),free (.inl rfl)⟩,rfl⟩
 ·rw[ag (by omega),ag (by omega)];exact⟨⟨aP.refl _,h,by omega,rfl,plain (by omega),N,zero (.inl rfl)⟩,rfl⟩
 ·rw[ai (.inr rfl)];exact⟨⟨aP.refl _,h,by omega,rfl,plain (by omega),plain (by omega),free (.inr rfl)⟩,rfl⟩
 ·rw[ag (by omega),ag (by omega)];exact⟨⟨aP.refl _,h,by omega,rfl,plain (by omega),N,zero (.inr rfl)⟩,rfl⟩
 ·rw[ag (by omega),ai rfl];have u:e.to≠0:=fun t=>O ⟨rfl,.inl t⟩;have ah:e.tag≤l:=by have:¬l<e.tag:=fun t=>O ⟨rfl,.inr t⟩;omega
  have Z:M.leads 5 ⟨l+1,e.to⟩ (l+1)=true:=by
   refine bf.2 ⟨bK.2 ⟨Q,T,U,V,by omega,by omega,fun t=>absurd t (by simp[u]),fun _ _=>⟨Int.le_refl _,by show l+1≤M.n;omega⟩⟩,?_⟩;rcases I with I|⟨r,a,b,c,d⟩;·exact .inl I
   ·exact .inr ⟨r,a,b,c,c⟩
  refine⟨⟨aP.refl _,h,by omega,rfl,Z,N,fun x=>?_⟩,rfl⟩;rw[ix u z s];have:ct 5 e l=true:=by unfold ct;rw[bM ah];rfl
  rw[this,Bool.true_and];cases W:aO x l with
  |true=>rw[ai rfl,ai rfl,cQ rfl]
  |false=>
   rw[ag (by simp),ag (by simp)];refine qk am rfl (fun j Y=>?_);unfold ct;rw[bM (show e.tag≤j by omega),bM (show(⟨l+1,e.to⟩:Edge).tag≤j from Y)]
theorem kV {f:Int}{M:St}(h:M.wf){l:Int}{e:Edge}(N:M.leads f e l=true)(Q:l<M.n)(he:fe M (ao M f e l)=0) :
  hQ f M l e (dI M (ao M f e l)) (dh M (ao M f e l)) (cF M f (ao M f e l)):=by
 obtain⟨a7,E⟩:=bf.1 N
 obtain⟨ay,a0,ba,bb,bh,bi,a1,bc⟩:=bK.1 a7
 have a7:=aW.of N
 unfold ao at he ⊢
 rw[ag (by omega),ag (by rw[N];simp)]at he ⊢
 split at he
 ·rename_i s;rw[ai s];obtain⟨rfl,s⟩:=s;show hQ 5 M l e M e e
  have ad:M.leads 5 e (l+1)=true:=by
   by_cases D:e.to=0
   ·have am:e.tag=0:=a1 (.inr D);have:e=⟨0,0⟩:=(by cases e;simp only at D am;rw[D,am]);rw[this];exact oB N (by omega) (by omega)
   ·have I:l<e.tag:=(by rcases s with s|s;exact absurd s D;exact s);have:=bc rfl D;refine bf.2 ⟨bK.2 ⟨ay,a0,ba,bb,by omega,by omega,a1,fun _ _=>by omega⟩,?_⟩;rcases E with E|⟨r,a,b,c,d⟩;·exact .inl E
    ·exact .inr ⟨r,a,b,by omega,d⟩
  refine⟨aP.refl _,h,by omega,rfl,ad,ad,fun x=>?_⟩;rw[ite_self];by_cases D:e.to=0;·rw[cQ D,cQ D]
  ·have I:l<e.tag:=by rcases s with s|s;exact absurd s D;exact s
   have z:look M.cs e.to=none∨∃r,look M.cs e.to=some r∧l<r.top:=by
    rcases E with E|⟨r,a,b,c,d⟩;·exact .inl (fq E)
    ·exact .inr ⟨r,a,by omega⟩
   rw[ix D Q z];have:ct 5 e l=false:=(by unfold ct;rw[bQ (show¬e.tag≤l by omega)];rfl);rw[this,Bool.false_and];rfl
 ·rename_i s;rw[ag s];cases z:look M.cs e.to with
  |none=>exact(qp h N Q (.inl z) s).1
  |some r=>
   rw[z]at he;simp only[]at he ⊢;have g:=h.b4 z;have g1:=g.tb;have D:=g.bn
   have u:r.ad=f∧l≤r.top:=by
    rcases E with E|⟨a2,a,b,c,d⟩;·rw[fq E]at z;cases z
    ·rw[z]at a;cases a;exact⟨b,c⟩
   by_cases I:l<r.top
   ·rw[ai I];exact(qp h N Q (.inr ⟨r,z,I⟩) s).1
   ·rw[ag I]at he ⊢;have J:r.top=l:=(by omega);obtain⟨u,_⟩:=u;split at he
    ·rename_i T;rw[ai T];obtain⟨Y,s⟩:=T;have Z:M.b2 ⟨r.ad,r.top+1,r.J,r.lo,r.hi⟩=false:=pz g h.b0 (by omega) (by rw[u];exact Y) s;obtain⟨q,t⟩:∃q:Rec,q=⟨r.ad,r.top+1,r.J,r.lo,r.hi⟩:=⟨_,rfl⟩;rw[←t]at he Z ⊢;change M.bh q=0 at he;obtain⟨av,O,aw,s,a8,a9⟩:=nQ h Z he;have s:dh M (.inr q)=⟨0,M.bs q⟩:=iG he
     have D:cF M f (.inr q)=if f=4 then⟨0,M.bs q⟩else r.hi:=by
      show(if M.bh q=0 then(if f=4 then bN M 0 q else q.hi)else⟨0,0⟩:Edge)=_;rw[ai he,iG he,t]
     rw[s,D];show hQ f M l e (M.ba q) _ _;have s:=O.n;have a5:f≠5:=by omega
     have ax:(M.ba q).leads f ⟨0,M.bs q⟩ (l+1)=true:=by
      refine bf.2 ⟨bK.2 ⟨ay,a0,by omega,by omega,by omega,by omega,fun _=>rfl,fun a=>absurd a a5⟩,.inr ⟨q,av,by rw[t];exact u,by rw[t];show l+1≤r.top+1;omega,by rw[t];show(0:Int)≤r.top+1;omega⟩⟩
     have a':(M.ba q).leads f r.hi (l+1)=true:=by
      have:=O.leads g.hi;rw[u]at this;exact kx this (by omega) (by omega)
     have al:∀x,tv (M.ba q) f x (l+1) ⟨0,M.bs q⟩=tv M f x (r.J+1) (bL x q):=fun x=>by
      have s:q.top=l+1:=(by rw[t];show r.top+1=_;omega);have D:q.J=r.J:=(by rw[t]);rw[iw aw (by omega) av (by rw[t];exact u) (by omega) s,D];refine eZ h O ?_;unfold bL;split;·rw[t,←u];exact aW.of g.hi
      ·rw[t,←u];exact aW.of g.lo
     have a6:∀x,tv M f x l e=tv M f x (r.J+1) (bL x r):=fun x=>iw h Q z u I J;refine⟨O,aw,a8,a9,ax,?_,fun x=>?_⟩
     ·split;·exact ax
      ·exact a'
     ·rw[a6 x];rcases Y with a3|a4
      ·rw[ag (show¬f=4 by omega)]
       have ah:dU x r=(aO x l||dU x q):=by
        unfold dU;rw[ai (by omega),ai (by rw[t];show r.ad=3;omega),t];show(!dM x r.top (r.J+1-r.top).toNat)=(aO x l||!dM x (r.top+1) (r.J+1-(r.top+1)).toNat);rw[show(r.J+1-r.top).toNat=(r.J+1-(r.top+1)).toNat+1 by omega];show(!(!aO x r.top&&dM x (r.top+1) _))=_;rw[J];cases aO x l<;>simp
       cases ab:aO x l with
       |true=>
        rw[ai rfl];have:bL x r=r.hi:=(by unfold bL;rw[ah,ab];rfl);rw[this,←eZ h O (by rw[←u];exact aW.of g.hi)];refine(qi a3 (by omega) ?_ (r.J-l).toNat (l+1) (by omega)).symm;rcases(bf.1 (O.leads g.hi)).2 with s|⟨a2,a,b,c,_⟩;·exact .inl s
        ·exact .inr ⟨a2,a,c⟩
       |false=>
        rw[ag (by simp),al x];have:bL x r=bL x q:=(by unfold bL;rw[ah,ab,Bool.false_or,t]);rw[this]
      ·rw[ai a4,ite_self,al x]
       have:bL x r=bL x q:=by
        have bd:dU x r=aO x r.J:=(by unfold dU;rw[ag (show¬r.ad=3 by omega)]);have be:dU x q=aO x r.J:=(by unfold dU;rw[ag (show¬q.ad=3 by rw[t];show¬r.ad=3;omega),t]);unfold bL;rw[bd,be,t]
       rw[this]
    ·rename_i T;rw[ag T];show hQ f M l e M r.lo r.hi
     have U:r.J=r.top:=by
      rcases g.chain with V|V;·exact V.symm
      ·unfold fF at V;simp only[dL,beq_iff_eq]at V;by_cases s:r.J=r.top;·exact s
       ·exact absurd ⟨by omega,s⟩ T
     have X:=g.lo;have W:=g.hi;rw[u,U,J]at X W;refine⟨aP.refl _,h,by omega,rfl,X,W,fun x=>?_⟩;rw[iw h Q z u I J,U,J]
     have hs:dU x r=aO x l:=by
      unfold dU;split
      ·rw[U,J,show(l+1-l).toNat=1 by omega];show(!(!aO x l&&true))=_;simp
      ·rw[U,J]
     unfold bL;rw[hs]
theorem Ac {f:Int}{M:St}(h:M.wf){l:Int}{e:Edge}(u:M.leads f e l=true)(I:l<M.n)(he:fe M (ao M f e l)≠0) :
  fe M (ao M f e l)=6∧dI M (ao M f e l)=M∧M.a7≤M.len:=by
 obtain⟨D,t⟩:=bf.1 u
 obtain⟨I,J,N,O,Q,T,U,V⟩:=bK.1 D
 have z:(aZ f l e).2.2=0:=by
  unfold aZ;split;·rfl
  ·split<;>rfl
 unfold ao at he ⊢
 rw[ag (by omega),ag (by rw[u];simp)]at he ⊢
 split at he
 ·exact absurd rfl he
 ·rename_i u;rw[ag u];cases s:look M.cs e.to with
  |none=>rw[s]at he;exact absurd z he
  |some r=>
   rw[s]at he;simp only[]at he ⊢;have g:=h.b4 s
   have E:r.ad=f∧l≤r.top:=by
    rcases t with t|⟨u,a,b,c,d⟩;·rw[fq t]at s;cases s
    ·rw[s]at a;cases a;exact⟨b,c⟩
   split at he;·exact absurd z he
   ·rename_i s;rw[ag s];split at he
    ·rename_i s;rw[ai s];exact nM (pz g h.b0 (by omega) (by rw[E.1];exact s.1) s.2) he
    ·exact absurd rfl he
def dH (g:Int→Bool):Nat→Nat→Int→List Bool
 |0,_,x=>[g x]
 |k+1,m,x=>dH g k (m+1) x++dH g k (m+1) (x+2 ^ m)
theorem kP (g:Int→Bool):∀(k m:Nat) (x:Int),(dH g k m x).length=2 ^ k:=by
 intro k;induction k with
 |zero=>intro m x;rfl
 |succ k s=>
  intro m x;show(dH g k (m+1) x++dH g k (m+1) (x+2 ^ m)).length=_;rw[fW,s,s,dA];omega
def bg (M:St)(f:Int)(e:Edge)(l:Int):List Bool:=dH (fun x=>tv M f x l e) (M.n-l).toNat l.toNat 0
theorem mN {M:St}{f:Int}{e:Edge}{l:Int}:(bg M f e l).length=2 ^ (M.n-l).toNat:=kP _ _ _ _
theorem rI (m s:Nat):aO (0+2 ^ (m+1)*(s:Int)) (m:Int)=false:=by
 unfold aO;rw[bG,Int.zero_add,Int.pow_succ,show(2:Int) ^ m*2*(s:Int)=2 ^ m*(2*(s:Int)) by rw[Int.mul_assoc],Int.mul_ediv_cancel_left _ (Int.ne_of_gt (Int.pow_pos (by decide)))];rw[bQ];omega
theorem rH (m s:Nat):aO (0+2 ^ m+2 ^ (m+1)*(s:Int)) (m:Int)=true:=by
 unfold aO;rw[bG,Int.zero_add,Int.pow_succ,show(2:Int) ^ m+2 ^ m*2*(s:Int)=2 ^ m*(1+2*(s:Int)) by rw[Int.mul_add,Int.mul_one,←Int.mul_assoc],Int.mul_ediv_cancel_left _ (Int.ne_of_gt (Int.pow_pos (by decide)))];rw[bM];omega
theorem rG (m s:Nat)(j:Int)(D:(m:Int)+1≤j):aO (0+2 ^ m+2 ^ (m+1)*(s:Int)) j=aO (0+2 ^ (m+1)*(s:Int)) j:=by
 obtain⟨d,z⟩:∃d:Nat,j.toNat=(m+1)+d:=⟨j.toNat-(m+1),by omega⟩;have D:(0:Int)<2 ^ m:=Int.pow_pos (by decide)
 have t:(0+2 ^ m+2 ^ (m+1)*(s:Int)) / 2 ^ (m+1)=(s:Int):=by
  rw[Int.add_mul_ediv_left _ _ (Int.ne_of_gt (Int.pow_pos (by decide)))];rw[Int.ediv_eq_zero_of_lt (by omega) (by rw[Int.pow_succ];omega)];omega
 have u:(0+2 ^ (m+1)*(s:Int)) / 2 ^ (m+1)=(s:Int):=by
  rw[Int.zero_add,Int.mul_ediv_cancel_left _ (Int.ne_of_gt (Int.pow_pos (by decide)))]
 have key:∀a:Int,a / 2 ^ (m+1+d)=a / 2 ^ (m+1) / 2 ^ d:=fun a=>by
  rw[Int.ediv_ediv_of_nonneg (Int.le_of_lt (Int.pow_pos (by decide))),←Int.pow_add]
 unfold aO;rw[z,key,key,t,u]
end Go.Proofs.YtafkamlhimkbmaaGreat
