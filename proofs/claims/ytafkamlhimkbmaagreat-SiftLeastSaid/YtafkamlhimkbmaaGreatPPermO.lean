/-
  Plainly: what an edge of form 4 that was made from below unfolds to is its table's term.
-/
import Derived.Test.YtafkamlhimkbmaaGreatPKPlain
import Derived.Test.YtafkamlhimkbmaaGreatPSSweep
import Derived.Test.YtafkamlhimkbmaaGreatPTermA
import Derived.Test.YtafkamlhimkbmaaGreatPUnfA
import Derived.Test.YtafkamlhimkbmaaGreatPViewQ
namespace Go.Proofs.YtafkamlhimkbmaaGreat
set_option maxRecDepth 1000000
set_option maxHeartbeats 8000000
set_option linter.unusedSimpArgs false
set_option linter.unusedVariables false
open Go.RowKit

theorem kz {M:St}{l:Int}{lo hi e:Edge}(h:cP 4 M l lo hi e) :
  (hi.to=0∧e=lo)∨(hi.to≠0∧∃r,look M.cs e.to=some r∧r.I=l ∧
   ((lo=hi∧∃x,look M.cs lo.to=some x∧x.I=l+1∧r.J=x.J∧r.lo=x.lo∧r.hi=x.hi) ∨
    ((lo=hi→∀x,look M.cs lo.to=some x→x.I≠l+1)∧r.J=l∧r.lo=lo∧r.hi=hi))):=by
 rcases h.up with u|⟨r,u,I,_⟩
 ·rw[fM]at u;unfold ak aV at u;split at u;·cases u
  ·split at u;·cases u
   ·split at u
    ·rename_i t;cases u;exact .inl ⟨t,rfl⟩
    ·split at u;·cases u
     ·split at u;·split at u<;>cases u
      ·cases u
 ·rw[fM]at u;unfold ak aV at u;split at u;·cases u
  ·split at u;·cases u
   ·split at u;·cases u
    ·rename_i t;refine .inr ⟨t,r,I,?_⟩;split at u
     ·rename_i j;cases u;exact⟨rfl,.inr ⟨fun _ x z=>(by rw[j]at z;cases z),rfl,rfl,rfl⟩⟩
     ·rename_i x j;split at u
      ·rename_i q;split at u
       ·rename_i s;cases u;exact⟨rfl,.inl ⟨q,x,j,s,rfl,rfl,rfl⟩⟩
       ·rename_i s;cases u;exact⟨rfl,.inr ⟨fun _ y A=>(by rw[j]at A;cases A;exact s),rfl,rfl,rfl⟩⟩
      ·rename_i q;cases u;exact⟨rfl,.inr ⟨fun E=>absurd E q,rfl,rfl,rfl⟩⟩

theorem gQ {cs:List (Option Rec)}{a:Int}{r:Rec}(h:look cs a=some r):¬a<2:=fun j=>by rw[dM j]at h;cases h

theorem jR {M:St}:∀(k:Nat) (ts:List Bool) (l:Int) (e:Edge),az 4 M k ts l e→(e.to=0↔aq ts=true):=by
 intro k;induction k with
 |zero=>
  intro ts l e h;obtain⟨b,rfl,rfl⟩:=h;cases b;·exact⟨fun _=>rfl,fun _=>rfl⟩
  ·exact⟨fun j=>(by cases j),fun j=>(by cases j)⟩
 |succ k s=>
  intro ts l e h;obtain⟨_,lo,hi,t,z,A⟩:=h;have a:=s _ _ _ t;have b:=s _ _ _ z;rw[kJ (2 ^ k),Bool.and_eq_true,←a,←b];rcases kz A with⟨q,rfl⟩|⟨q,r,s,_⟩
  ·exact⟨fun j=>⟨j,q⟩,fun j=>j.1⟩
  ·have:=gQ s;exact⟨fun j=>absurd j (by omega),fun j=>absurd j.2 q⟩

theorem qD {M:St}{k:Nat}{ts:List Bool}{l:Int}{e:Edge}(h:az 4 M (k+1) ts l e)(z:aq (ts.drop (2 ^ k))=true):az 4 M k (ts.take (2 ^ k)) (l+1) e:=by
 obtain⟨_,lo,hi,q,s,t⟩:=h;have b:=(jR _ _ _ _ s).2 z;rcases kz t with⟨j,rfl⟩|⟨j,_⟩
 ·exact q
 ·exact absurd b j

theorem zQ {M:St}(am:M.wf):∀(k:Nat) (ts:List Bool) (l:Int) (e:Edge),az 4 M (k+1) ts l e→l+(k+1:Nat)=M.n→aq (ts.drop (2 ^ k))=false →
  ∃r,look M.cs e.to=some r∧r.I=l∧∀c z A,aH k (ts.take (2 ^ k)) (ts.drop (2 ^ k))=(c,z,A)→r.J=l+(k-c:Nat)∧az 4 M c z (r.J+1) r.lo∧az 4 M c A (r.J+1) r.hi:=by
 intro k
 induction k with
 |zero=>
  intro ts l e h Y O;obtain⟨_,lo,hi,q,t,W⟩:=h;rcases kz W with⟨S,_⟩|⟨S,r,Z,ad,N⟩
  ·rw[(jR _ _ _ _ t).1 S]at O;cases O
  ·refine⟨r,Z,ad,fun c z A U=>?_⟩;have s:(0,ts.take (2 ^ 0),ts.drop (2 ^ 0))=(c,z,A):=U;cases s;rcases N with⟨_,x,L,_⟩|⟨_,E,I,J⟩
   ·obtain⟨b,_,rfl⟩:=q;exfalso;have:=gQ L;cases b;·exact this (show(0:Int)<2 by decide)
    ·exact this (show(1:Int)<2 by decide)
   ·rw[E,I,J];exact⟨by simp,q,t⟩
 |succ k a'=>
  intro ts l e h Y O;have bg:=h.length;obtain⟨_,lo,hi,q,t,W⟩:=h;have a4:l+1+(k+1:Nat)=M.n:=by push_cast at Y ⊢;omega
  rcases kz W with⟨S,_⟩|⟨S,r,Z,ad,N⟩
  ·rw[(jR _ _ _ _ t).1 S]at O;cases O
  ·refine⟨r,Z,ad,fun c z A U=>?_⟩;obtain⟨j,aw⟩:∃j,j=ts.take (2 ^ (k+1)):=⟨_,rfl⟩;obtain⟨K,a1⟩:∃K,K=ts.drop (2 ^ (k+1)):=⟨_,rfl⟩;rw[←aw,←a1]at U;rw[←aw]at q;rw[←a1]at t;have s:(if aC j K&&!aq (j.drop (2 ^ k))then aH k (j.take (2 ^ k)) (j.drop (2 ^ k))else(k+1,j,K))=(c,z,A):=U;by_cases ab:lo=hi
   ·subst ab;have X:j=K:=az.inj am _ _ _ _ _ q t;subst X;rw[eo.2 rfl,Bool.true_and]at s;cases T:aq (j.drop (2 ^ k))with
    |true=>
     rw[T]at s;cases s;have a5:=qD q T;rcases N with⟨_,x,L,a6,_⟩|⟨_,E,I,J⟩
     ·have:=a5.I am (by decide) (by push_cast at Y ⊢;omega) L;omega
     ·rw[E,I,J];exact⟨by simp,q,q⟩
    |false=>
     rw[T]at s;obtain⟨y,a2,a8,a7⟩:=a' _ _ _ q a4 T;obtain⟨O,bb,be⟩:=a7 c z A s
     have O:c≤k:=by
      have:=lJ k (j.take (2 ^ k)) (j.drop (2 ^ k));have O:(aH k (j.take (2 ^ k)) (j.drop (2 ^ k))).1=c:=(by rw[show aH k (j.take (2 ^ k)) (j.drop (2 ^ k))=(c,z,A)from s]);omega
     rcases N with⟨_,x,L,a6,E,I,J⟩|⟨av,_⟩
     ·rw[a2]at L;cases L;rw[E,I,J];exact⟨by omega,bb,be⟩
     ·exact absurd a8 (av rfl y a2)
   ·have X:aC j K=false:=iY.2 (fun a3=>ab (by subst a3;exact az.c' am _ _ _ _ _ q t));rw[X]at s;cases s;rcases N with⟨av,_⟩|⟨_,E,I,J⟩
    ·exact absurd av ab
    ·rw[E,I,J];exact⟨by simp,q,t⟩

theorem jq:ay 0=⟨#[48]⟩:=by decide
theorem j8:ay 1=⟨#[49]⟩:=by decide

theorem gy {f:Int}{M:St}{n:Nat}{e:Edge}(j:f≠5)(h:e.to<2):ar f M (n+1) e=ay e.to:=by
 show(if f=5 then _ else if e.to<2 then _ else _)=_;rw[if_neg j,if_pos h]

theorem rm {f:Int}{M:St}{n:Nat}{e:Edge}{r:Rec}(j:f=3∨f=4)(h:look M.cs e.to=some r) :
  ar f M (n+1) e=⟨#[40]⟩++ay r.I++⟨#[58]⟩++ay r.J++⟨#[32]⟩++ar f M n r.lo++⟨#[32]⟩++ar f M n r.hi++⟨#[41]⟩:=by
 show(if f=5 then _ else if e.to<2 then _ else if f=3∨f=4 then _ else _)=_
 rw[if_neg (by omega),if_neg (gQ h),if_pos j,h]
 rfl

theorem Bz {M:St}(T:M.wf):∀(k:Nat) (ts:List Bool) (l:Int) (e:Edge),az 4 M k ts l e→l+(k:Nat)=M.n→∀m n,k≤m→k≤n→ar 4 M (m+1) e=cm (n+1) k ts l:=by
 intro k;induction k using Nat.strongRecOn with
 |ind k t=>
  intro ts l e h j m n N N;cases k with
  |zero=>
   obtain⟨b,rfl,rfl⟩:=h;cases b;·exact(gy (by decide) (show(0:Int)<2 by decide)).trans jq
   ·exact(gy (by decide) (show(1:Int)<2 by decide)).trans j8
  |succ k=>
   have s:cm (n+1) (k+1) ts l=(if aq ts then⟨#[48]⟩else if aq (ts.drop (2 ^ k))then cm n k (ts.take (2 ^ k)) (l+1)
    else⟨#[40]⟩++ay l++⟨#[58]⟩++ay (l+(k-(aH k (ts.take (2 ^ k)) (ts.drop (2 ^ k))).1:Nat))++⟨#[32]⟩++cm n (aH k (ts.take (2 ^ k)) (ts.drop (2 ^ k))).1 (aH k (ts.take (2 ^ k)) (ts.drop (2 ^ k))).2.1 (l+(k-(aH k (ts.take (2 ^ k)) (ts.drop (2 ^ k))).1:Nat)+1)++⟨#[32]⟩++cm n (aH k (ts.take (2 ^ k)) (ts.drop (2 ^ k))).1 (aH k (ts.take (2 ^ k)) (ts.drop (2 ^ k))).2.2 (l+(k-(aH k (ts.take (2 ^ k)) (ts.drop (2 ^ k))).1:Nat)+1)++⟨#[41]⟩):=rfl
   rw[s];by_cases s:e.to=0
   ·rw[if_pos ((jR _ _ _ _ h).1 s),gy (by decide) (by omega),s];exact jq
   ·rw[if_neg (fun N=>s ((jR _ _ _ _ h).2 N))];obtain⟨n,rfl⟩:∃s,n=s+1:=⟨n-1,by omega⟩;cases I:aq (ts.drop (2 ^ k))with
    |true=>
     rw[if_pos rfl];exact t k (by omega) _ _ _ (qD h I) (by push_cast at j ⊢;omega) m n (by omega) (by omega)
    |false=>
     rw[if_neg (by decide)];obtain⟨r,O,S,L⟩:=zQ T k ts l e h j I;obtain⟨c,z,A,q⟩:∃c z A,aH k (ts.take (2 ^ k)) (ts.drop (2 ^ k))=(c,z,A):=⟨_,_,_,rfl⟩;obtain⟨E,J,K⟩:=L c z A q
     have s:c≤k:=by
      have:=lJ k (ts.take (2 ^ k)) (ts.drop (2 ^ k));rw[q]at this;exact this
     obtain⟨m,rfl⟩:∃s,m=s+1:=⟨m-1,by omega⟩;rw[q,rm (.inr rfl) O];have q:r.J+1+(c:Nat)=M.n:=(by rw[E];push_cast at j ⊢;omega);rw[t c (by omega) _ _ _ J q m n (by omega) (by omega),t c (by omega) _ _ _ K q m n (by omega) (by omega),S,E]

theorem rn {f:Int}{M:St}{n:Nat}{e:Edge}{r:Rec}(j:f=1∨f=2)(h:look M.cs e.to=some r) :
  ar f M (n+1) e=⟨#[40]⟩++ay r.I++⟨#[32]⟩++ar f M n r.lo++⟨#[32]⟩++ar f M n r.hi++⟨#[41]⟩:=by
 show(if f=5 then _ else if e.to<2 then _ else if f=3∨f=4 then _ else _)=_
 rw[if_neg (by omega),if_neg (gQ h),if_neg (by omega),h]
 rfl

theorem xc {M:St}{l:Int}{lo hi e:Edge}(h:cP 1 M l lo hi e) :
  (lo=hi∧e=lo)∨(lo≠hi∧∃r,look M.cs e.to=some r∧r.I=l∧r.lo=lo∧r.hi=hi):=by
 rcases h.up with u|⟨r,u,q,_⟩
 ·rw[eV]at u;unfold ak bT at u;split at u;·cases u
  ·split at u;·cases u
   ·split at u
    ·rename_i j;cases u;exact .inl ⟨j,rfl⟩
    ·cases u
 ·rw[eV]at u;unfold ak bT at u;split at u;·cases u
  ·split at u;·cases u
   ·split at u;·cases u
    ·rename_i j;cases u;exact .inr ⟨j,_,q,rfl,rfl,rfl⟩

theorem py {M:St}{l:Int}{lo hi e:Edge}(h:cP 2 M l lo hi e) :
  (hi.to=0∧e=lo)∨(hi.to≠0∧∃r,look M.cs e.to=some r∧r.I=l∧r.lo=lo∧r.hi=hi):=by
 rcases h.up with u|⟨r,u,q,_⟩
 ·rw[eW]at u;unfold ak bX at u;split at u;·cases u
  ·split at u;·cases u
   ·split at u
    ·rename_i j;cases u;exact .inl ⟨j,rfl⟩
    ·cases u
 ·rw[eW]at u;unfold ak bX at u;split at u;·cases u
  ·split at u;·cases u
   ·split at u;·cases u
    ·rename_i j;cases u;exact .inr ⟨j,_,q,rfl,rfl,rfl⟩

theorem Bw {M:St}(t:M.wf):∀(k:Nat) (ts:List Bool) (l:Int) (e:Edge),az 1 M k ts l e→∀m,k≤m→ar 1 M (m+1) e=cc k ts l:=by
 intro k;induction k with
 |zero=>
  intro ts l e h m A;obtain⟨b,rfl,rfl⟩:=h;cases b;·exact(gy (by decide) (show(0:Int)<2 by decide)).trans jq
  ·exact(gy (by decide) (show(1:Int)<2 by decide)).trans j8
 |succ k s=>
  intro ts l e h m A;have I:cc (k+1) ts l=(if aC (ts.take (2 ^ k)) (ts.drop (2 ^ k))then cc k (ts.take (2 ^ k)) (l+1)else⟨#[40]⟩++ay l++⟨#[32]⟩++cc k (ts.take (2 ^ k)) (l+1)++⟨#[32]⟩++cc k (ts.drop (2 ^ k)) (l+1)++⟨#[41]⟩):=rfl;rw[I];obtain⟨_,lo,hi,j,q,z⟩:=h;rcases xc z with⟨rfl,rfl⟩|⟨I,r,E,J,K,L⟩
  ·rw[if_pos (eo.2 (az.inj t _ _ _ _ _ j q))];exact s _ _ _ j m (by omega)
  ·have A:aC (ts.take (2 ^ k)) (ts.drop (2 ^ k))=false:=iY.2 (fun z=>I (by rw[z]at j;exact az.c' t _ _ _ _ _ j q));rw[A,if_neg (by decide)];obtain⟨m,rfl⟩:∃t,m=t+1:=⟨m-1,by omega⟩;rw[rn (.inl rfl) E,J,K,L,s _ _ _ j m (by omega),s _ _ _ q m (by omega)]

theorem rE {M:St}:∀(k:Nat) (ts:List Bool) (l:Int) (e:Edge),az 2 M k ts l e→(e.to=0↔aq ts=true):=by
 intro k;induction k with
 |zero=>
  intro ts l e h;obtain⟨b,rfl,rfl⟩:=h;cases b;·exact⟨fun _=>rfl,fun _=>rfl⟩
  ·exact⟨fun j=>(by cases j),fun j=>(by cases j)⟩
 |succ k s=>
  intro ts l e h;obtain⟨_,lo,hi,t,z,A⟩:=h;have a:=s _ _ _ t;have b:=s _ _ _ z;rw[kJ (2 ^ k),Bool.and_eq_true,←a,←b];rcases py A with⟨q,rfl⟩|⟨q,r,s,_⟩
  ·exact⟨fun j=>⟨j,q⟩,fun j=>j.1⟩
  ·have:=gQ s;exact⟨fun j=>absurd j (by omega),fun j=>absurd j.2 q⟩

theorem Bx {M:St}:∀(k:Nat) (ts:List Bool) (l:Int) (e:Edge),az 2 M k ts l e→∀m,k≤m→ar 2 M (m+1) e=cr k ts l:=by
 intro k;induction k with
 |zero=>
  intro ts l e h m A;obtain⟨b,rfl,rfl⟩:=h;cases b;·exact(gy (by decide) (show(0:Int)<2 by decide)).trans jq
  ·exact(gy (by decide) (show(1:Int)<2 by decide)).trans j8
 |succ k q=>
  intro ts l e h m A;have I:cr (k+1) ts l=(if aq (ts.drop (2 ^ k))then cr k (ts.take (2 ^ k)) (l+1)else⟨#[40]⟩++ay l++⟨#[32]⟩++cr k (ts.take (2 ^ k)) (l+1)++⟨#[32]⟩++cr k (ts.drop (2 ^ k)) (l+1)++⟨#[41]⟩):=rfl;rw[I];obtain⟨_,lo,hi,t,j,z⟩:=h;rcases py z with⟨s,rfl⟩|⟨s,r,E,J,K,L⟩
  ·rw[if_pos ((rE _ _ _ _ j).1 s)];exact q _ _ _ t m (by omega)
  ·rw[if_neg (fun z=>s ((rE _ _ _ _ j).2 z))];obtain⟨m,rfl⟩:∃s,m=s+1:=⟨m-1,by omega⟩;rw[rn (.inr rfl) E,J,K,L,q _ _ _ t m (by omega),q _ _ _ j m (by omega)]

theorem mo {M:St}{l:Int}{lo hi e:Edge}(h:cP 3 M l lo hi e) :
  (lo=hi∧e=lo)∨(lo≠hi∧∃r,look M.cs e.to=some r∧r.I=l ∧
   ((∃x,look M.cs lo.to=some x∧x.I=l+1∧x.hi=hi∧r.J=x.J∧r.lo=x.lo∧r.hi=hi) ∨
    ((∀x,look M.cs lo.to=some x→x.I=l+1→x.hi≠hi)∧r.J=l∧r.lo=lo∧r.hi=hi))):=by
 rcases h.up with u|⟨r,u,E,_⟩
 ·rw[fL]at u;unfold ak aS at u;split at u;·cases u
  ·split at u;·cases u
   ·split at u
    ·rename_i z;cases u;exact .inl ⟨z,rfl⟩
    ·split at u;·cases u
     ·split at u;·split at u<;>cases u
      ·cases u
 ·rw[fL]at u;unfold ak aS at u;split at u;·cases u
  ·split at u;·cases u
   ·split at u;·cases u
    ·rename_i z;refine .inr ⟨z,r,E,?_⟩;split at u
     ·rename_i j;cases u;exact⟨rfl,.inr ⟨fun x A=>(by rw[j]at A;cases A),rfl,rfl,rfl⟩⟩
     ·rename_i x j;split at u
      ·rename_i t;split at u
       ·rename_i s;cases u;exact⟨rfl,.inl ⟨x,j,t,s,rfl,rfl,rfl⟩⟩
       ·rename_i s;cases u;exact⟨rfl,.inr ⟨fun y q _=>(by rw[j]at q;cases q;exact s),rfl,rfl,rfl⟩⟩
      ·rename_i t;cases u;exact⟨rfl,.inr ⟨fun y q I=>(by rw[j]at q;cases q;exact absurd I t),rfl,rfl,rfl⟩⟩

theorem jJ {M:St}(z:M.wf){k:Nat}{ts:List Bool}{l:Int}{e:Edge}(h:az 3 M (k+1) ts l e)(t:ts.take (2 ^ k)=ts.drop (2 ^ k)):az 3 M k (ts.take (2 ^ k)) (l+1) e:=by
 obtain⟨_,lo,hi,j,q,s⟩:=h;have:lo=hi:=az.c' z _ _ _ _ _ j (t ▸ q);rcases mo s with⟨_,rfl⟩|⟨q,_⟩
 ·exact j
 ·exact absurd this q

theorem oI {M:St}(z:M.wf):∀(k:Nat) (lo hi:List Bool) (l:Int) (e:Edge) (c:Nat) (s q:List Bool),aG k lo hi=(c,s,q)→az 3 M k hi l e→az 3 M c q (l+(k-c:Nat)) e:=by
 intro k;induction k with
 |zero=>
  intro lo hi l e c s q t h;have j:(0,lo,hi)=(c,s,q):=t;cases j;simpa using h
 |succ k A=>
  intro lo hi l e c s q t h;have j:(if !aC (lo.take (2 ^ k)) (lo.drop (2 ^ k))&&aC (hi.take (2 ^ k)) (hi.drop (2 ^ k))&&aC (hi.take (2 ^ k)) (lo.drop (2 ^ k))then aG k (lo.take (2 ^ k)) (lo.drop (2 ^ k))else(k+1,lo,hi))=(c,s,q):=t;split at j
  ·rename_i q;rw[Bool.and_eq_true,Bool.and_eq_true]at q;have s:=eo.1 q.1.2;have t:=eo.1 q.2;have q:=jJ z h s;rw[t]at q;have s:=A _ _ _ _ _ _ _ j q
   have q:c≤k:=by
    have:=jn k (lo.take (2 ^ k)) (lo.drop (2 ^ k));rw[j]at this;exact this
   rwa[show l+1+((k-c:Nat):Int)=l+((k+1-c:Nat):Int) by omega]at s
  ·cases j;simpa using h

theorem zP {M:St}(s:M.wf):∀(k:Nat) (ts:List Bool) (l:Int) (e:Edge),az 3 M (k+1) ts l e→l+(k+1:Nat)=M.n→ts.take (2 ^ k)≠ts.drop (2 ^ k) →
  ∃r,look M.cs e.to=some r∧r.I=l∧∀c I J,aG k (ts.take (2 ^ k)) (ts.drop (2 ^ k))=(c,I,J)→r.J=l+(k-c:Nat)∧az 3 M c I (r.J+1) r.lo∧az 3 M c J (r.J+1) r.hi:=by
 intro k
 induction k with
 |zero=>
  intro ts l e h am av;obtain⟨_,lo,hi,t,z,ab⟩:=h;rcases mo ab with⟨rfl,_⟩|⟨b2,r,a1,a2,T⟩
  ·exact absurd (az.inj s _ _ _ _ _ t z) av
  ·refine⟨r,a1,a2,fun c I J W=>?_⟩;have A:(0,ts.take (2 ^ 0),ts.drop (2 ^ 0))=(c,I,J):=W;cases A;rcases T with⟨x,E,_⟩|⟨_,K,L,N⟩
   ·obtain⟨b,_,rfl⟩:=t;exfalso;have:=gQ E;cases b;·exact this (show(0:Int)<2 by decide)
    ·exact this (show(1:Int)<2 by decide)
   ·rw[K,L,N];exact⟨by simp,t,z⟩
 |succ k bp=>
  intro ts l e h am av;obtain⟨_,lo,hi,t,z,ab⟩:=h;have bb:l+1+(k+1:Nat)=M.n:=by push_cast at am ⊢;omega
  have be:l+1+1+(k:Nat)=M.n:=by push_cast at am ⊢;omega
  rcases mo ab with⟨rfl,_⟩|⟨b2,r,a1,a2,T⟩
  ·exact absurd (az.inj s _ _ _ _ _ t z) av
  ·refine⟨r,a1,a2,fun c I J W=>?_⟩;obtain⟨j,a8⟩:∃j,j=ts.take (2 ^ (k+1)):=⟨_,rfl⟩;obtain⟨q,a'⟩:∃q,q=ts.drop (2 ^ (k+1)):=⟨_,rfl⟩;rw[←a8,←a']at W;rw[←a8]at t;rw[←a']at z;have A:(if !aC (j.take (2 ^ k)) (j.drop (2 ^ k))&&aC (q.take (2 ^ k)) (q.drop (2 ^ k))&&aC (q.take (2 ^ k)) (j.drop (2 ^ k))then aG k (j.take (2 ^ k)) (j.drop (2 ^ k))else(k+1,j,q))=(c,I,J):=W;by_cases X:j.take (2 ^ k)=j.drop (2 ^ k)
   ·rw[eo.2 X]at A;cases A;have bx:=jJ s t X;rcases T with⟨x,E,bi,_⟩|⟨_,K,L,N⟩
    ·have:=bx.I s (by decide) be E;omega
    ·rw[K,L,N];exact⟨by simp,t,z⟩
   ·obtain⟨y,a3,b0,bn⟩:=bp _ _ _ t bb X;rw[iY.2 X]at A;by_cases S:q.take (2 ^ k)=q.drop (2 ^ k)∧q.take (2 ^ k)=j.drop (2 ^ k)
    ·rw[eo.2 S.1,eo.2 S.2]at A;have U:aG k (j.take (2 ^ k)) (j.drop (2 ^ k))=(c,I,J):=A;obtain⟨a6,bq,a7⟩:=bn c I J U
     have bt:c≤k:=by
      have:=jn k (j.take (2 ^ k)) (j.drop (2 ^ k));rw[U]at this;exact this
     have W:=jJ s z S.1;rw[S.2]at W;have O:=oI s _ _ _ _ _ _ _ _ U W;have Y:l+1+1+((k-c:Nat):Int)=y.J+1:=(by rw[a6];omega);rw[Y]at O;have bw:y.hi=hi:=az.c' s _ _ _ _ _ a7 O;rcases T with⟨x,E,bi,bg,K,L,N⟩|⟨b1,_⟩
     ·rw[a3]at E;cases E;rw[K,L,N];exact⟨by omega,bq,O⟩
     ·exact absurd bw (b1 y a3 b0)
    ·have U:(k+1,j,q)=(c,I,J):=by
      have:(!false&&aC (q.take (2 ^ k)) (q.drop (2 ^ k))&&aC (q.take (2 ^ k)) (j.drop (2 ^ k)))=false:=by
       rw[Bool.not_false,Bool.true_and];cases br:aC (q.take (2 ^ k)) (q.drop (2 ^ k))with
       |false=>rfl
       |true=>
        rw[Bool.true_and];cases bs:aC (q.take (2 ^ k)) (j.drop (2 ^ k))with
        |false=>rfl
        |true=>exact absurd ⟨eo.1 br,eo.1 bs⟩ S
      rw[this]at A;exact A
     rcases T with⟨x,E,bi,bg,K,L,N⟩|⟨_,K,L,N⟩
     ·exfalso;rw[a3]at E;cases E;obtain⟨d,a4,a5,ad⟩:∃c a4 a5,aG k (j.take (2 ^ k)) (j.drop (2 ^ k))=(c,a4,a5):=⟨_,_,_,rfl⟩;obtain⟨a6,bq,a7⟩:=bn d a4 a5 ad
      have bt:d≤k:=by
       have:=jn k (j.take (2 ^ k)) (j.drop (2 ^ k));rw[ad]at this;exact this
      obtain⟨_,A,j,_,Z,_⟩:=id t;have O:=oI s _ _ _ _ _ _ _ _ ad Z;have Y:l+1+1+((k-d:Nat):Int)=y.J+1:=(by rw[a6];omega);rw[Y]at O;have bv:j=hi:=(az.c' s _ _ _ _ _ O a7).trans bg;subst bv;by_cases aw:q.take (2 ^ k)=q.drop (2 ^ k);·exact S ⟨aw,az.inj s _ _ _ _ _ (jJ s z aw) Z⟩
      ·obtain⟨v,j,q,_⟩:=bp _ _ _ z bb aw;have:=Z.I s (by decide) be j;omega
     ·cases U;rw[K,L,N];exact⟨by simp,t,z⟩

theorem By {M:St}(I:M.wf):∀(k:Nat) (ts:List Bool) (l:Int) (e:Edge),az 3 M k ts l e→l+(k:Nat)=M.n→∀m n,k≤m→k≤n→ar 3 M (m+1) e=ck (n+1) k ts l:=by
 intro k;induction k using Nat.strongRecOn with
 |ind k s=>
  intro ts l e h j m n T T;cases k with
  |zero=>
   obtain⟨b,rfl,rfl⟩:=h;cases b;·exact(gy (by decide) (show(0:Int)<2 by decide)).trans jq
   ·exact(gy (by decide) (show(1:Int)<2 by decide)).trans j8
  |succ k=>
   have O:ck (n+1) (k+1) ts l=(if aC (ts.take (2 ^ k)) (ts.drop (2 ^ k))then ck n k (ts.take (2 ^ k)) (l+1)
    else⟨#[40]⟩++ay l++⟨#[58]⟩++ay (l+(k-(aG k (ts.take (2 ^ k)) (ts.drop (2 ^ k))).1:Nat))++⟨#[32]⟩++ck n (aG k (ts.take (2 ^ k)) (ts.drop (2 ^ k))).1 (aG k (ts.take (2 ^ k)) (ts.drop (2 ^ k))).2.1 (l+(k-(aG k (ts.take (2 ^ k)) (ts.drop (2 ^ k))).1:Nat)+1)++⟨#[32]⟩++ck n (aG k (ts.take (2 ^ k)) (ts.drop (2 ^ k))).1 (aG k (ts.take (2 ^ k)) (ts.drop (2 ^ k))).2.2 (l+(k-(aG k (ts.take (2 ^ k)) (ts.drop (2 ^ k))).1:Nat)+1)++⟨#[41]⟩):=rfl
   rw[O];obtain⟨n,rfl⟩:∃O,n=O+1:=⟨n-1,by omega⟩;cases E:aC (ts.take (2 ^ k)) (ts.drop (2 ^ k))with
   |true=>
    rw[if_pos rfl];exact s k (by omega) _ _ _ (jJ I h (eo.1 E)) (by push_cast at j ⊢;omega) m n (by omega) (by omega)
   |false=>
    rw[if_neg (by decide)];obtain⟨r,N,S,L⟩:=zP I k ts l e h j (iY.1 E);obtain⟨c,t,z,q⟩:∃c t z,aG k (ts.take (2 ^ k)) (ts.drop (2 ^ k))=(c,t,z):=⟨_,_,_,rfl⟩;obtain⟨A,J,K⟩:=L c t z q
    have t:c≤k:=by
     have:=jn k (ts.take (2 ^ k)) (ts.drop (2 ^ k));rw[q]at this;exact this
    obtain⟨m,rfl⟩:∃t,m=t+1:=⟨m-1,by omega⟩;rw[q,rm (.inl rfl) N];have q:r.J+1+(c:Nat)=M.n:=(by rw[A];push_cast at j ⊢;omega);rw[s c (by omega) _ _ _ J q m n (by omega) (by omega),s c (by omega) _ _ _ K q m n (by omega) (by omega),S,A]

theorem pz {M:St}{l:Int}{lo hi e:Edge}(h:cP 5 M l lo hi e) :
  (lo=hi∧e=lo)∨(lo≠hi∧hi.to=0∧lo.tag=l+1∧e=⟨l,lo.to⟩)∨(lo≠hi∧¬(hi.to=0∧lo.tag=l+1)∧e.tag=l∧∃r,look M.cs e.to=some r∧r.I=l∧r.lo=lo∧r.hi=hi):=by
 rcases h.up with u|⟨r,u,s,t⟩
 ·rw[fu]at u;unfold bl at u;split at u;·cases u
  ·split at u;·cases u
   ·split at u
    ·rename_i j;cases u;exact .inl ⟨j,rfl⟩
    ·rename_i j;split at u
     ·rename_i q;cases u;exact .inr (.inl ⟨j,q.1,q.2,rfl⟩)
     ·cases u
 ·rw[fu]at u;unfold bl at u;split at u;·cases u
  ·split at u;·cases u
   ·split at u;·cases u
    ·rename_i j;split at u;·cases u
     ·rename_i q;cases u;exact .inr (.inr ⟨j,q,t,_,s,rfl,rfl,rfl⟩)

theorem nN {M:St}:∀(k:Nat) (ts:List Bool) (l:Int) (e:Edge),az 5 M k ts l e→(aq ts=true→e=⟨0,0⟩)∧(e.to=0→aq ts=true):=by
 intro k;induction k with
 |zero=>
  intro ts l e h;obtain⟨b,rfl,rfl⟩:=h;cases b;·exact⟨fun _=>rfl,fun _=>rfl⟩
  ·exact⟨fun j=>(by cases j),fun j=>(by cases j)⟩
 |succ k s=>
  intro ts l e h;obtain⟨_,lo,hi,z,A,E⟩:=h;have a:=s _ _ _ z;have b:=s _ _ _ A;rw[kJ (2 ^ k),Bool.and_eq_true];rcases pz E with⟨rfl,rfl⟩|⟨q,t,I,rfl⟩|⟨q,t,I,r,s,_⟩
  ·exact⟨fun j=>a.1 j.1,fun j=>⟨a.2 j,b.2 j⟩⟩
  ·refine⟨fun j=>absurd ((a.1 j.1).trans (b.1 j.2).symm) q,fun j=>⟨a.2 j,b.2 t⟩⟩
  ·have:=gQ s;exact⟨fun j=>absurd ((a.1 j.1).trans (b.1 j.2).symm) q,fun j=>absurd j (by omega)⟩

theorem qL:∀(k:Nat) (ts:List Bool),fm k ts=false→aO k ts=(k,ts):=by
 intro k ts h;cases k with
 |zero=>rfl
 |succ k=>
  have j:aC (ts.take (2 ^ k)) (ts.drop (2 ^ k))=false:=h;show(if aC (ts.take (2 ^ k)) (ts.drop (2 ^ k))=true then _ else _)=_;rw[j];rfl

theorem Ar {k:Nat}{ts:List Bool}(h:fm k ts=true):(aO k ts).1<k:=by
 cases k with
 |zero=>cases h
 |succ k=>
  have j:aC (ts.take (2 ^ k)) (ts.drop (2 ^ k))=true:=h
  have:aO (k+1) ts=aO k (ts.take (2 ^ k)):=by
   show(if aC (ts.take (2 ^ k)) (ts.drop (2 ^ k))=true then _ else _)=_;rw[if_pos j]
  rw[this];have:=kY k (ts.take (2 ^ k));omega

theorem zR {M:St}(ad:M.wf):∀(k:Nat) (ts:List Bool) (l:Int) (e:Edge),az 5 M k ts l e→0≤l→aq ts=false →
  e.tag=l+(k-(aO k ts).1:Nat)∧∀c q,bW (aO k ts).1 (aO k ts).2=(c,q) →
   (c=0→e.to=1)∧∀t,c=t+1→∃r,look M.cs e.to=some r∧r.I=l+(k-c:Nat)∧az 5 M t (q.take (2 ^ t)) (r.I+1) r.lo∧az 5 M t (q.drop (2 ^ t)) (r.I+1) r.hi:=by
 intro k
 induction k with
 |zero=>
  intro ts l e h bn Z;obtain⟨b,rfl,rfl⟩:=h;cases b;·cases Z
  ·refine⟨by show l=l+((0-0:Nat):Int);simp,fun c q A=>?_⟩;have E:(0,[true])=(c,q):=A;cases E;exact⟨fun _=>rfl,fun t L=>by omega⟩
 |succ k am=>
  intro ts l e h bn Z;have h:=id h;obtain⟨_,lo,hi,z,I,bp⟩:=id h;have a0:=nN _ _ _ _ z;have X:=nN _ _ _ _ I;obtain⟨j,S⟩:∃j,j=ts.take (2 ^ k):=⟨_,rfl⟩;obtain⟨s,T⟩:∃s,s=ts.drop (2 ^ k):=⟨_,rfl⟩;have K:(aq j&&aq s)=false:=by rw[S,T,←kJ];exact Z
  have hS:aO (k+1) ts=(if aC j s then aO k j else(k+1,ts)):=by rw[S,T];rfl
  have a8:bW (k+1) ts=(if aq s&&!fm k j then bW k j else(k+1,ts)):=by rw[S,T];rfl
  have be:ts.take (2 ^ k)=j:=S.symm;have bg:ts.drop (2 ^ k)=s:=T.symm;rw[be]at z a0;rw[bg]at I X;have S:=kY k j;rcases pz bp with⟨rfl,rfl⟩|⟨a7,a2,bi,rfl⟩|⟨a7,a2,bi,r,bs,ab,bv,bt⟩
  ·have J:j=s:=az.inj ad _ _ _ _ _ z I;rw[←J,Bool.and_self]at K;obtain⟨N,W⟩:=am _ _ _ z (by omega) K;rw[hS,eo.2 J,if_pos rfl];refine⟨by rw[N];omega,fun c q A=>?_⟩;obtain⟨av,aw⟩:=W c q A
   have bq:c≤(aO k j).1:=by
    have:=kZ (aO k j).1 (aO k j).2;rw[A]at this;exact this
   refine⟨av,fun t L=>?_⟩;obtain⟨r,a3,a4,a5,a6⟩:=aw t L;exact⟨r,a3,by rw[a4];omega,a5,a6⟩
  ·have J:j≠s:=fun U=>a7 (by subst U;exact az.c' ad _ _ _ _ _ z I);have O:aq s=true:=X.2 a2;have a1:aq j=false:=(by rw[O,Bool.and_true]at K;exact K);obtain⟨N,W⟩:=am _ _ _ z (by omega) a1
   have a':fm k j=false:=by
    cases Y:fm k j with
    |false=>rfl
    |true=>
     have:=Ar Y;omega
   rw[qL k j a']at W;rw[hS,iY.2 J,if_neg (by decide)];refine⟨by show l=_;simp,fun c q A=>?_⟩;have E:bW (k+1) ts=(c,q):=A;rw[a8,O,a']at E;have bb:bW k j=(c,q):=E;obtain⟨av,aw⟩:=W c q bb
   have bq:c≤k:=by
    have:=kZ k j;rw[bb]at this;exact this
   refine⟨av,fun t L=>?_⟩;obtain⟨r,a3,a4,a5,a6⟩:=aw t L;exact⟨r,a3,by rw[a4];omega,a5,a6⟩
  ·have J:j≠s:=fun U=>a7 (by subst U;exact az.c' ad _ _ _ _ _ z I);rw[hS,iY.2 J,if_neg (by decide)];refine⟨by rw[bi];simp,fun c q A=>?_⟩;have E:bW (k+1) ts=(c,q):=A
   have br:(aq s&&!fm k j)=false:=by
    cases O:aq s with
    |false=>rfl
    |true=>
     have a1:aq j=false:=(by rw[O,Bool.and_true]at K;exact K);cases Y:fm k j with
     |true=>rfl
     |false=>
      exfalso;obtain⟨N,_⟩:=am _ _ _ z (by omega) a1;rw[qL k j Y]at N;exact a2 ⟨by rw[X.1 O],by rw[N];simp⟩
   rw[a8,br]at E;cases E;refine⟨fun U=>by omega,fun t L=>?_⟩;obtain rfl:k=t:=(by omega);refine⟨r,bs,by rw[ab];simp,?_,?_⟩;·rw[ab,bv,be];exact z
   ·rw[ab,bt,bg];exact I

theorem BS {M:St}{n:Nat}{e:Edge}(h:e.to=0):ar 5 M (n+1) e=⟨#[48]⟩:=by
 show(if(5:Int)=5 then(if e.to=0 then _ else _)else _)=_;rw[if_pos (by decide),if_pos h]

theorem BU {M:St}{n:Nat}{e:Edge}(h:e.to=1):ar 5 M (n+1) e=ay e.tag++⟨#[64]⟩++⟨#[49]⟩:=by
 show(if(5:Int)=5 then(if e.to=0 then _ else if e.to=1 then _ else _)else _)=_;rw[if_pos (by decide),if_neg (by omega),if_pos h]

theorem BR {M:St}{n:Nat}{e:Edge}{r:Rec}(h:look M.cs e.to=some r) :
  ar 5 M (n+1) e=ay e.tag++⟨#[64]⟩++⟨#[40]⟩++ay r.I++⟨#[32]⟩++ar 5 M n r.lo++⟨#[32]⟩++ar 5 M n r.hi++⟨#[41]⟩:=by
 have:=gQ h
 show(if(5:Int)=5 then(if e.to=0 then _ else if e.to=1 then _ else _)else _)=_
 rw[if_pos (by decide),if_neg (by omega),if_neg (by omega),h]
 rfl

theorem BA {M:St}(J:M.wf):∀(k:Nat) (ts:List Bool) (l:Int) (e:Edge),az 5 M k ts l e→l+(k:Nat)=M.n→0≤l→∀m n,k≤m→k≤n→ar 5 M (m+1) e=dh (n+1) k ts l:=by
 intro k;induction k using Nat.strongRecOn with
 |ind k t=>
  intro ts l e h W E m n W W
  have I:dh (n+1) k ts l=(if aq ts then⟨#[48]⟩else
   match bW (aO k ts).1 (aO k ts).2 with
   |(0,_)=>ay (l+(k-(aO k ts).1:Nat))++⟨#[64]⟩++⟨#[49]⟩
   |(c+1,j)=>ay (l+(k-(aO k ts).1:Nat))++⟨#[64]⟩++⟨#[40]⟩++ay (l+(k-(c+1):Nat))++⟨#[32]⟩++dh n c (j.take (2 ^ c)) (l+(k-c:Nat))++⟨#[32]⟩++dh n c (j.drop (2 ^ c)) (l+(k-c:Nat))++⟨#[41]⟩):=rfl
  rw[I];have K:=nN _ _ _ _ h;cases s:aq ts with
  |true=>rw[if_pos rfl];exact BS (by rw[K.1 s])
  |false=>
   rw[if_neg (by decide)];obtain⟨A,U⟩:=zR J k ts l e h E s;obtain⟨c,j,q⟩:∃c j,bW (aO k ts).1 (aO k ts).2=(c,j):=⟨_,_,rfl⟩;obtain⟨L,N⟩:=U c j q;have j:=kY k ts
   have j:c≤(aO k ts).1:=by
    have:=kZ (aO k ts).1 (aO k ts).2;rw[q]at this;exact this
   rw[q];cases c with
   |zero=>
    simp only[];rw[BU (L rfl),A]
   |succ c=>
    simp only[];obtain⟨r,O,z,S,T⟩:=N c rfl;obtain⟨m,rfl⟩:∃j,m=j+1:=⟨m-1,by omega⟩;obtain⟨n,rfl⟩:∃j,n=j+1:=⟨n-1,by omega⟩;have j:r.I+1+(c:Nat)=M.n:=(by rw[z];omega);rw[BR O,t c (by omega) _ _ _ S j (by omega) m n (by omega) (by omega),t c (by omega) _ _ _ T j (by omega) m n (by omega) (by omega),A,z];rw[show l+((k-(c+1):Nat):Int)+1=l+((k-c:Nat):Int) by omega]

def bd (f:Int)(k:Nat)(ts:List Bool)(l:Int):ByteArray:=
 if f=1 then cc k ts l else if f=2 then cr k ts l else if f=3 then ck (k+1) k ts l else if f=4 then cm (k+1) k ts l else dh (k+1) k ts l

theorem kj {f:Int}(j:1≤f∧f≤5):f=1∨f=2∨f=3∨f=4∨f=5:=by omega

theorem BB {f:Int}{M:St}(q:M.wf)(z:1≤f∧f≤5){k:Nat}{ts:List Bool}{l:Int}{e:Edge}(h:az f M k ts l e)(s:l+(k:Nat)=M.n)(t:0≤l)(m:Nat)(j:k≤m):ar f M (m+1) e=bd f k ts l:=by
 rcases kj z with rfl|rfl|rfl|rfl|rfl;·exact Bw q k ts l e h m j
 ·exact Bx k ts l e h m j
 ·exact By q k ts l e h s m k j (Nat.le_refl _)
 ·exact Bz q k ts l e h s m k j (Nat.le_refl _)
 ·exact BA q k ts l e h s t m k j (Nat.le_refl _)

theorem wF (t:Nat)(e:Edge)(d:Int)(x:ByteArray)(w:World)(s:∀j,aa w j→Calls Tryz.prog 171 #[.pointer (some ⟨t,0,none⟩),.agg #[.int .u8 e.tag,.int .u32 e.to],.int .i64 d] j fun r q=>r=.returned (.string x)∧aa j q) :
  Calls Tryz.prog 107 #[.pointer (some ⟨t,0,none⟩),.int .u8 1,.agg #[.int .u8 e.tag,.int .u32 e.to],.int .i64 d] w fun r q=>r=.returned (.string x)∧aa w q:=by
 have H:=Lib.hid s
 clear s
 go_enter Tryz.func107,Tryz.ntmps107
 go_wp2_with (first|(go_at_call 171;refine(H.out _ (by(exact kp))).mono ?_;rintro r w1 ⟨rfl,j⟩)|fail)
 go_ret
 exact⟨rfl,by(exact kp)⟩

theorem wA (B off p cap:Nat)(l:Int)(x:ByteArray)(w:World)(s:∀j,aa w j→Calls Tryz.prog 180 #[.slice (some ⟨B,off,none⟩) p cap,.int .i64 l] j fun r q=>r=.returned (.string x)∧aa j q) :
  Calls Tryz.prog 114 #[.int .u8 1,.slice (some ⟨B,off,none⟩) p cap,.int .i64 l] w fun r q=>r=.returned (.string x)∧aa w q:=by
 have H:=Lib.hid s
 clear s
 go_enter Tryz.func114,Tryz.ntmps114
 go_wp2_with (first|(go_at_call 180;refine(H.out _ (by(exact kp))).mono ?_;rintro r w1 ⟨rfl,j⟩)|fail)
 go_ret
 exact⟨rfl,by(exact kp)⟩

theorem wJ (t:Nat)(e:Edge)(d:Int)(x:ByteArray)(w:World)(s:∀j,aa w j→Calls Tryz.prog 172 #[.pointer (some ⟨t,0,none⟩),.agg #[.int .u8 e.tag,.int .u32 e.to],.int .i64 d] j fun r q=>r=.returned (.string x)∧aa j q) :
  Calls Tryz.prog 107 #[.pointer (some ⟨t,0,none⟩),.int .u8 2,.agg #[.int .u8 e.tag,.int .u32 e.to],.int .i64 d] w fun r q=>r=.returned (.string x)∧aa w q:=by
 have H:=Lib.hid s
 clear s
 go_enter Tryz.func107,Tryz.ntmps107
 go_wp2_with (first|(go_at_call 172;refine(H.out _ (by(exact kp))).mono ?_;rintro r w1 ⟨rfl,j⟩)|fail)
 go_ret
 exact⟨rfl,by(exact kp)⟩

theorem wE (B off p cap:Nat)(l:Int)(x:ByteArray)(w:World)(s:∀j,aa w j→Calls Tryz.prog 181 #[.slice (some ⟨B,off,none⟩) p cap,.int .i64 l] j fun r q=>r=.returned (.string x)∧aa j q) :
  Calls Tryz.prog 114 #[.int .u8 2,.slice (some ⟨B,off,none⟩) p cap,.int .i64 l] w fun r q=>r=.returned (.string x)∧aa w q:=by
 have H:=Lib.hid s
 clear s
 go_enter Tryz.func114,Tryz.ntmps114
 go_wp2_with (first|(go_at_call 181;refine(H.out _ (by(exact kp))).mono ?_;rintro r w1 ⟨rfl,j⟩)|fail)
 go_ret
 exact⟨rfl,by(exact kp)⟩

theorem wG (t:Nat)(e:Edge)(d:Int)(x:ByteArray)(w:World)(s:∀j,aa w j→Calls Tryz.prog 173 #[.pointer (some ⟨t,0,none⟩),.agg #[.int .u8 e.tag,.int .u32 e.to],.int .i64 d] j fun r q=>r=.returned (.string x)∧aa j q) :
  Calls Tryz.prog 107 #[.pointer (some ⟨t,0,none⟩),.int .u8 3,.agg #[.int .u8 e.tag,.int .u32 e.to],.int .i64 d] w fun r q=>r=.returned (.string x)∧aa w q:=by
 have H:=Lib.hid s
 clear s
 go_enter Tryz.func107,Tryz.ntmps107
 go_wp2_with (first|(go_at_call 173;refine(H.out _ (by(exact kp))).mono ?_;rintro r w1 ⟨rfl,j⟩)|fail)
 go_ret
 exact⟨rfl,by(exact kp)⟩

theorem wB (B off p cap:Nat)(l:Int)(x:ByteArray)(w:World)(s:∀j,aa w j→Calls Tryz.prog 182 #[.slice (some ⟨B,off,none⟩) p cap,.int .i64 l] j fun r q=>r=.returned (.string x)∧aa j q) :
  Calls Tryz.prog 114 #[.int .u8 3,.slice (some ⟨B,off,none⟩) p cap,.int .i64 l] w fun r q=>r=.returned (.string x)∧aa w q:=by
 have H:=Lib.hid s
 clear s
 go_enter Tryz.func114,Tryz.ntmps114
 go_wp2_with (first|(go_at_call 182;refine(H.out _ (by(exact kp))).mono ?_;rintro r w1 ⟨rfl,j⟩)|fail)
 go_ret
 exact⟨rfl,by(exact kp)⟩

theorem wH (t:Nat)(e:Edge)(d:Int)(x:ByteArray)(w:World)(s:∀j,aa w j→Calls Tryz.prog 174 #[.pointer (some ⟨t,0,none⟩),.agg #[.int .u8 e.tag,.int .u32 e.to],.int .i64 d] j fun r q=>r=.returned (.string x)∧aa j q) :
  Calls Tryz.prog 107 #[.pointer (some ⟨t,0,none⟩),.int .u8 4,.agg #[.int .u8 e.tag,.int .u32 e.to],.int .i64 d] w fun r q=>r=.returned (.string x)∧aa w q:=by
 have H:=Lib.hid s
 clear s
 go_enter Tryz.func107,Tryz.ntmps107
 go_wp2_with (first|(go_at_call 174;refine(H.out _ (by(exact kp))).mono ?_;rintro r w1 ⟨rfl,j⟩)|fail)
 go_ret
 exact⟨rfl,by(exact kp)⟩

theorem wC (B off p cap:Nat)(l:Int)(x:ByteArray)(w:World)(s:∀j,aa w j→Calls Tryz.prog 183 #[.slice (some ⟨B,off,none⟩) p cap,.int .i64 l] j fun r q=>r=.returned (.string x)∧aa j q) :
  Calls Tryz.prog 114 #[.int .u8 4,.slice (some ⟨B,off,none⟩) p cap,.int .i64 l] w fun r q=>r=.returned (.string x)∧aa w q:=by
 have H:=Lib.hid s
 clear s
 go_enter Tryz.func114,Tryz.ntmps114
 go_wp2_with (first|(go_at_call 183;refine(H.out _ (by(exact kp))).mono ?_;rintro r w1 ⟨rfl,j⟩)|fail)
 go_ret
 exact⟨rfl,by(exact kp)⟩

theorem wI (t:Nat)(e:Edge)(d:Int)(x:ByteArray)(w:World)(s:∀j,aa w j→Calls Tryz.prog 175 #[.pointer (some ⟨t,0,none⟩),.agg #[.int .u8 e.tag,.int .u32 e.to],.int .i64 d] j fun r q=>r=.returned (.string x)∧aa j q) :
  Calls Tryz.prog 107 #[.pointer (some ⟨t,0,none⟩),.int .u8 5,.agg #[.int .u8 e.tag,.int .u32 e.to],.int .i64 d] w fun r q=>r=.returned (.string x)∧aa w q:=by
 have H:=Lib.hid s
 clear s
 go_enter Tryz.func107,Tryz.ntmps107
 go_wp2_with (first|(go_at_call 175;refine(H.out _ (by(exact kp))).mono ?_;rintro r w1 ⟨rfl,j⟩)|fail)
 go_ret
 exact⟨rfl,by(exact kp)⟩

theorem wD (B off p cap:Nat)(l:Int)(x:ByteArray)(w:World)(s:∀j,aa w j→Calls Tryz.prog 184 #[.slice (some ⟨B,off,none⟩) p cap,.int .i64 l] j fun r q=>r=.returned (.string x)∧aa j q) :
  Calls Tryz.prog 114 #[.int .u8 5,.slice (some ⟨B,off,none⟩) p cap,.int .i64 l] w fun r q=>r=.returned (.string x)∧aa w q:=by
 have H:=Lib.hid s
 clear s
 go_enter Tryz.func114,Tryz.ntmps114
 go_wp2_with (first|(go_at_call 184;refine(H.out _ (by(exact kp))).mono ?_;rintro r w1 ⟨rfl,j⟩)|fail)
 go_ret
 exact⟨rfl,by(exact kp)⟩

theorem BM {F:Nat→Prop}{w:World}{s:Nat}{M:St}(h:ag F w s M)(A:M.n≤9)(f:Int)(j:1≤f∧f≤5)(n:Nat)(z:n≤20)(e:Edge)(t:e.ok)(E:e.tag<10) :
  Calls Tryz.prog 107 #[.pointer (some ⟨s,0,none⟩),.int .u8 f,.agg #[.int .u8 e.tag,.int .u32 e.to],.int .i64 ((n:Int)-1)] w fun r q=>r=.returned (.string (ar f M n e))∧aa w q:=by
 rcases kj j with rfl|rfl|rfl|rfl|rfl
 ·exact wF s e _ _ w (fun j q=>BE (h.U q) A n z e j (aa.refl _) t)
 ·exact wJ s e _ _ w (fun j q=>B4 (h.U q) A n z e j (aa.refl _) t)
 ·exact wG s e _ _ w (fun j q=>BI (h.U q) A n z e j (aa.refl _) t)
 ·exact wH s e _ _ w (fun j q=>BN (h.U q) A n z e j (aa.refl _) t)
 ·exact wI s e _ _ w (fun j q=>BX (h.U q) A n z e j (aa.refl _) t E)

theorem AY {B:Nat}(f:Int)(j:1≤f∧f≤5)(k:Nat)(A:k≤9)(off cap:Nat)(ts:List Bool)(l:Int)(w:World)(h:aB w B off ts)(E:ts.length=2 ^ k)(t:2 ^ k≤cap)(z:cap≤4096)(s:0≤l)(I:l+(k:Nat)<10) :
  Calls Tryz.prog 114 #[.int .u8 f,.slice (some ⟨B,off,none⟩) (2 ^ k) cap,.int .i64 l] w fun e q=>e=.returned (.string (bd f k ts l))∧aa w q:=by
 rcases kj j with rfl|rfl|rfl|rfl|rfl
 ·exact wA B off _ cap l _ w (fun j q=>AR k A off cap ts l j (h.U q) E t z s (by omega))
 ·exact wE B off _ cap l _ w (fun j q=>A9 k A off cap ts l j (h.U q) E t z s (by omega))
 ·exact wB B off _ cap l _ w (fun j q=>AU (k+1) (by omega) k (by omega) A off cap ts l j (h.U q) E t z s (by omega))
 ·exact wC B off _ cap l _ w (fun j q=>AZ (k+1) (by omega) k (by omega) A off cap ts l j (h.U q) E t z s (by omega))
 ·exact wD B off _ cap l _ w (fun j q=>A4 (k+1) (by omega) k (by omega) A off cap ts l j (h.U q) E t z s (by omega))

theorem lQ (n:Nat)(I:n≤5)(w:World) :
  Calls Tryz.prog 103 #[.int .i64 (n:Int)] w fun e E=>e=.returned (.int .i64 (aZ n:Int))∧w=E:=by
 have t:n=0∨n=1∨n=2∨n=3∨n=4∨n=5:=by omega
 go_enter Tryz.func103,Tryz.ntmps103
 go_wp2_with fail
 go_loopg [3,4] (n-1) (fun gk E I wr=>∃i:Nat,I=.int .i64 ((i+2:Nat):Int)∧E=.int .i64 (aZ (i+1):Int)∧i≤n∧n-1-i=gk∧(i+1≤n∨i=0)∧wr=w)
 case atStart=>exact⟨0,rfl,rfl,by omega,rfl,.inr rfl,rfl⟩
 case round=>
  obtain⟨i,rfl,rfl,hi,J,A,rfl⟩:=hrel;by_cases E:i+2≤n
  ·have z:i=0∨i=1∨i=2∨i=3:=(by omega);rcases z with rfl|rfl|rfl|rfl
   all_goals
    simp only[aZ]
    go_wp2_with fail
    go_roundg (gk-1)
    case rel=>exact⟨_+1,rfl,rfl,by omega,by omega,.inl (by omega),rfl⟩
    case measure=>omega
  ·have j:(aZ (i+1):Int)=(aZ n:Int):=by
    rcases A with q|q;·rw[show i+1=n by omega]
    ·subst q;have:n=0∨n=1:=(by omega);rcases this with rfl|rfl<;>rfl
   rw[j];clear t j;obtain⟨F,hF⟩:∃F:Nat,F=aZ n:=⟨_,rfl⟩;have s:=Lib.hid hF;rw[←hF];clear hF;go_wp2_with fail
   go_ret
   exact⟨by rw[←s.out];rfl,rfl⟩

structure jg (w0 wr:World)(LB base n c r R:Nat)(left pr:List Int)(v:Value):Prop where
 len:left.length=c
 cn:c≤n
 hJ:pr.length=n-c
 lt:r<aZ c
 own:gZ wr LB left
 row:wr.ownsRow base 3 1 v (n-c) (pr.map (Value.int .i64))
 all:pr++gS c left r=bo n R
 U:aa w0 wr
 lb:LB<base∧base≤wr.heap.size∧w0.heap.size≤LB

theorem jg.pos {w0 wr:World}{j q n c r R:Nat}{left s:List Int}{v:Value}(h:jg w0 wr j q n (c+1) r R left s v):r / aZ c<left.length:=by
 rw[h.len];have:=h.lt;have e:aZ (c+1)=(c+1)*aZ c:=rfl;rw[e]at this;exact Nat.div_lt_of_lt_mul (by rw[Nat.mul_comm];exact this)

theorem xY {w:World}{lo j:Nat}{e:TypeId}{size:Nat}{v:Value}{n:Nat}{xs:List Value}(t:j≤lo)(h:w.ownsRow lo e size v n xs):w.ownsRow j e size v n xs:=by
 refine⟨h.1,?_⟩;rcases h.2 with z|⟨g,cap,j,q,s,rest⟩;·exact .inl z
 ·exact .inr ⟨g,cap,j,q,Nat.le_trans t s,rest⟩

theorem xN {c r:Nat}{left:List Int}(h:r / aZ c<left.length):∃x,left[r / aZ c]?=some x∧gS (c+1) left r=x::gS c (left.eraseIdx (r / aZ c)) (r%aZ c):=by
 refine⟨left[r / aZ c],List.getElem?_eq_getElem h,?_⟩;show left.getD (r / aZ c) 0::_=_;rw[List.getD_eq_getElem?_getD,List.getElem?_eq_getElem h];rfl

theorem yo (n R:Nat)(a8:n≤5)(cD:R<aZ n)(w:World) :
  Calls Tryz.prog 51 #[.int .i64 (n:Int),.int .i64 (R:Int)] w fun e cb=>∃a cap,e=.returned (.tuple #[.slice a n cap,.bool true])∧cb.ownsRow w.heap.size 3 1 (.slice a n cap) n ((bo n R).map (Value.int .i64))∧aa w cb:=by
 obtain⟨b9,hi,b6,b7,b8⟩:=info_parts gM
 have cp:=Lib.hid (fun z:World=>p' n (by omega) z)
 have bg:=Lib.hid (fun z:World=>lQ n a8 z)
 obtain⟨Fn,a4⟩:∃F,F=aZ n:=⟨_,rfl⟩
 have cb:¬(Fn:Int)≤(R:Int):=by omega
 have cS:R<Fn:=by omega
 rw[←a4]at bg
 have ci:=Lib.hid a4
 clear a4 cD
 go_enter Tryz.func51,Tryz.ntmps51
 go_wp2_with (first
  |(go_at_call 102;refine(cp.out _).mono ?_;rintro e w1 ⟨rfl,a5,a7⟩)
  |(go_at_call 103;refine(bg.out _).mono ?_;rintro e db ⟨rfl,rfl⟩)
  |(at_make;refine wpList_make_own _ rfl _ _ 22 rfl w1.heap.size 3 b9 (.int .i64 0) 1 Tryz.underlying22 hi b6 b7 .i64 .i64 (n:Int) n rfl rfl rfl (by rw[b8];omega) (by unfold maxLen;omega) (Nat.le_refl _) ?_;intro cd t s)
  |fail)
 have aw:aa w1 cd:=⟨s.os,s.tape,s.output,s.size,fun i hi=>s.block i hi (by simp)⟩
 have b1:=a5.lt
 have a1:=a7.size
 have c':=aw.size
 have Z:=a5.U aw
 obtain⟨E,bt⟩:∃a3,a3=w.heap.size:=⟨_,rfl⟩
 obtain⟨I,bw⟩:∃a3,a3=w1.heap.size:=⟨_,rfl⟩
 rw[←bt]at Z b1 a1 ⊢
 rw[←bw]at t b1 c' a1 ⊢
 have b5:jg w cd E I n n R R (cC n) [] (.slice (some ⟨I,0,none⟩) 0 n):=⟨iU n,Nat.le_refl _,by simp,by rw[←ci.out];exact cS,fun i x S=>⟨Z.cell S,Z.frozen i⟩,by rw[Nat.sub_self];exact t,rfl,a7.trans aw,by omega,by omega,by omega⟩
 have bq:=Lib.hid b5
 clear b5 Z a5 t s aw a7 bt bw
 go_wp2_with fail
 go_loopg [1,6,8,9] n (fun gk a1 Z aw a3 wr=>∃(r:Nat) (left W:List Int),a3=.int .i64 ((gk:Int)-1)∧a1=.int .i64 (r:Int)∧Z=.slice (some ⟨E,0,none⟩) gk n∧jg w wr E I n gk r R left W aw)
 case atStart=>exact⟨R,cC n,[],rfl,rfl,rfl,bq.out⟩
 case round=>
  clear bq;obtain⟨r,left,W,rfl,rfl,rfl,q⟩:=hrel;obtain⟨T,U,rfl,c2⟩:=ej q.row;have c1:=q.cn;by_cases c6:gk=0
  ·subst c6
   have b2:wr.ownsRow I 3 1 (.slice T n U) n ((bo n R).map (Value.int .i64))∧aa w wr:=by
    have X:=q.row;have Y:=q.all;rw[show gS 0 left r=[]from rfl,List.append_nil]at Y;rw[Y,Nat.sub_zero]at X;exact⟨X,q.U⟩
   have bn:=Lib.hid b2;have Z:=q.lb;clear q b2;rw[Nat.sub_zero];go_wp2_with fail
   go_ret2
   have c5:=bn.out.1;exact⟨T,U,rfl,xY (by omega) c5,bn.out.2⟩
  ·obtain⟨c,rfl⟩:∃c,gk=c+1:=⟨gk-1,by omega⟩;have L:=q.pos;obtain⟨x,S,b0⟩:=xN L;have cy:=jr c;have be:=Lib.hid (fun z:World=>lQ c (by omega) z);obtain⟨br,bs⟩:=q.own _ _ S;have A:=Lib.hid q;have Z:=Lib.hid S;have cl:=Lib.hid b0;have c4:=q.lt
   have c3:aZ (c+1)≤120:=by
    have:c=0∨c=1∨c=2∨c=3∨c=4:=(by omega);rcases this with rfl|rfl|rfl|rfl|rfl<;>decide
   have Z:r<120:=(by omega);rw[q.len]at L;clear q S b0 c4 c3;obtain⟨F,hF⟩:∃F,F=aZ c:=⟨_,rfl⟩;have ch:=Lib.hid hF;rw[←hF]at L cy be br bs;obtain⟨K,ad⟩:∃K,K=r / F:=⟨_,rfl⟩;obtain⟨m,ab⟩:∃m,m=r%F:=⟨_,rfl⟩;rw[←ad]at L br bs;have q:(r:Int) / (F:Int)=(K:Int):=(by rw[ad];exact_mod_cast rfl);have q:(r:Int)%(F:Int)=(m:Int):=(by rw[ab];exact_mod_cast rfl);have q:m≤120:=(by rw[ab];exact Nat.le_trans (Nat.mod_le _ _) (by omega));have co:=Lib.hid (⟨ad,ab⟩:K=r / F∧m=r%F);clear hF ad ab;rw[show((c+1:Nat):Int)-1=(c:Int) by omega];obtain⟨d,a6⟩:∃d,d=n-(c+1):=⟨_,rfl⟩;have bb:=A.out.row;rw[←a6]at bb c2 ⊢;have q:d+(c+1)=n:=(by omega);have bp:=Lib.hid bb;have cf:=Lib.hid a6;have b4:=A.out.own;have cn:=Lib.hid b4;have N:=A.out.len;have bi:=Lib.hid N;obtain⟨c7,q,ca⟩:=A.out.lb;have q:=A.out.U.size;have c8:d+1≤maxLen:=(by unfold maxLen;omega);have c9:(d+1)*8≤140737488355328:=(by omega);have q:=fun(z:World) (X:gZ z E left) (Y:E<z.heap.size)=>uo E n K left z X Y (by rw[N];exact c1) (by omega) (by rw[N];exact L);rw[N,Nat.add_sub_cancel]at q;have cg:=Lib.hid q;clear bb a6 b4 N q
   go_wp2_with (first
    |(go_at_call 103;refine(be.out _).mono ?_;rintro e db ⟨rfl,rfl⟩)
    |(at_builtin;refine wpList_append_own _ rfl _ _ 22 rfl I 3 b9 (.int .i64 0) 1 8 Tryz.underlying22 hi b6 b7 b8 rfl (by decide) (.slice T d U) d (W.map (Value.int .i64)) rfl (bp.out.alloc _) ⟨wr.heap.size,0,none⟩ 1 1 [.int .i64 x] rfl rfl (dZ _ _ _ _ rfl) (by simp[Value.oneCell']) (by exact c8) (by exact c9) (by simp;omega) ?_;intro da ce t s _)
    |fail)
   have a':∀k,Value.ownBlock (.slice T d U)=some k→I≤k:=fun k j=>by
    rcases bp.out.2 with⟨J,_⟩|⟨cx,cq,cv,J,c0,_⟩
    ·rw[J]at j;simp[Value.ownBlock]at j
    ·rw[J]at j;simp[Value.ownBlock]at j;omega
   have q:ae (fun k=>Value.ownBlock (.slice T d U)=some k) wr ce:=(((aa.refl wr).alloc _).av _).a' ⟨s.os,s.tape,s.output,s.size,fun k j a8=>s.block k j (fun e=>a8 e.symm)⟩;have O:aa w ce:=A.out.U.new q (fun k j=>by have:=a' k j;omega);have z:=q.size;have z:=cn.out.a4 q (by omega) (fun j=>by have:=a' _ j;omega);have a2:=Lib.hid (⟨t,O,z⟩:_∧_∧_);clear t O z q a' s;refine(cg.out _ a2.out.2.2 (by omega)).mono ?_;rintro e dj ⟨rfl,b3,av⟩;obtain⟨t,O,-⟩:=a2.out
   have bx:jg w dj E I n c m R (left.eraseIdx K) (W++[x]) da:=by
    have am:=co.out;rw[ch.out]at am;have bv:=A.out.all;rw[cl.out]at bv;refine⟨?_,by omega,?_,?_,b3,?_,?_,O.new av (fun k j=>by subst j;exact ca),⟨c7,?_,ca⟩⟩;·rw[List.length_eraseIdx,if_pos (by rw[bi.out];exact L),bi.out,Nat.add_sub_cancel]
    ·rw[List.length_append,A.out.hJ,←cf.out];show d+1=n-c;omega
    ·rw[am.2];exact Nat.mod_lt _ (jr c)
    ·rw[show n-c=d+1 by omega,List.map_append]
     exact av.bq (fun k j e=>by
      rcases t.2 with⟨J,_⟩|⟨cx,cq,cv,J,c0,_⟩
      ·rw[J]at j;simp[Value.ownBlock]at j
      ·rw[J]at j;simp[Value.ownBlock]at j;omega) t
    ·rw[List.append_assoc,←am.1,←am.2]at *;exact bv
    ·have:=av.size;omega
   have cj:=Lib.hid bx;clear bx b3 av t O a2;go_wp2_with fail
   go_roundg c
   case rel=>exact⟨m,left.eraseIdx K,W++[x],by simp,by simp,rfl,cj.out⟩
   case measure=>omega

theorem yp (n:Nat)(A:n≤5)(w:World) :
  Calls Tryz.prog 51 #[.int .i64 (n:Int),.int .i64 (aZ n:Int)] w fun e j=>e=.returned (.tuple #[.slice none 0 0,.bool false])∧aa w j:=by
 have t:=Lib.hid (fun j:World=>p' n (by omega) j)
 have q:=Lib.hid (fun j:World=>lQ n A j)
 obtain⟨Fn,s⟩:∃F,F=aZ n:=⟨_,rfl⟩
 rw[←s]at q ⊢
 clear s
 go_enter Tryz.func51,Tryz.ntmps51
 go_wp2_with (first
  |(go_at_call 102;refine(t.out _).mono ?_;rintro e w1 ⟨rfl,j,z⟩)
  |(go_at_call 103;refine(q.out _).mono ?_;rintro e E ⟨rfl,rfl⟩)
  |fail)
 go_ret2
 exact⟨rfl,z⟩

end Go.Proofs.YtafkamlhimkbmaaGreat
