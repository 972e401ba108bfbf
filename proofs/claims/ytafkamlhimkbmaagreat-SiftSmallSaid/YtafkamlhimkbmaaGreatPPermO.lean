/-
  Plainly: what an edge of form 4 that was made from below unfolds to is its table's term.
-/
import Derived.Test.YtafkamlhimkbmaaGreatPSSweep
import Derived.Test.YtafkamlhimkbmaaGreatPTermA
import Derived.Test.YtafkamlhimkbmaaGreatPUnfA
import Derived.Test.YtafkamlhimkbmaaGreatPViewC
namespace Go.Proofs.YtafkamlhimkbmaaGreat
set_option maxRecDepth 1000000
set_option maxHeartbeats 8000000
set_option linter.unusedSimpArgs false
set_option linter.unusedVariables false
open Go.RowKit

theorem kI {M:St}{l:Int}{lo hi e:Edge}(h:cR 4 M l lo hi e) :
  (hi.to=0∧e=lo)∨(hi.to≠0∧∃r,look M.cs e.to=some r∧r.I=l ∧
   ((lo=hi∧∃x,look M.cs lo.to=some x∧x.I=l+1∧r.J=x.J∧r.lo=x.lo∧r.hi=x.hi) ∨
    ((lo=hi→∀x,look M.cs lo.to=some x→x.I≠l+1)∧r.J=l∧r.lo=lo∧r.hi=hi))):=by
 rcases h.up with u|⟨r,u,I,_⟩
 ·rw[fV]at u;unfold al aZ at u;split at u;·cases u
  ·split at u;·cases u
   ·split at u
    ·rename_i t;cases u;exact .inl ⟨t,rfl⟩
    ·split at u;·cases u
     ·split at u;·split at u<;>cases u
      ·cases u
 ·rw[fV]at u;unfold al aZ at u;split at u;·cases u
  ·split at u;·cases u
   ·split at u;·cases u
    ·rename_i t;refine .inr ⟨t,r,I,?_⟩;split at u
     ·rename_i j;cases u;exact⟨rfl,.inr ⟨fun _ x z=>(by rw[j]at z;cases z),rfl,rfl,rfl⟩⟩
     ·rename_i x j;split at u
      ·rename_i q;split at u
       ·rename_i s;cases u;exact⟨rfl,.inl ⟨q,x,j,s,rfl,rfl,rfl⟩⟩
       ·rename_i s;cases u;exact⟨rfl,.inr ⟨fun _ y A=>(by rw[j]at A;cases A;exact s),rfl,rfl,rfl⟩⟩
      ·rename_i q;cases u;exact⟨rfl,.inr ⟨fun E=>absurd E q,rfl,rfl,rfl⟩⟩

theorem gS {cs:List (Option Rec)}{a:Int}{r:Rec}(h:look cs a=some r):¬a<2:=fun j=>by rw[dR j]at h;cases h

theorem jY {M:St}:∀(k:Nat) (ts:List Bool) (l:Int) (e:Edge),aC 4 M k ts l e→(e.to=0↔ax ts=true):=by
 intro k;induction k with
 |zero=>
  intro ts l e h;obtain⟨b,rfl,rfl⟩:=h;cases b;·exact⟨fun _=>rfl,fun _=>rfl⟩
  ·exact⟨fun j=>(by cases j),fun j=>(by cases j)⟩
 |succ k s=>
  intro ts l e h;obtain⟨_,lo,hi,t,z,A⟩:=h;have a:=s _ _ _ t;have b:=s _ _ _ z;rw[kS (2 ^ k),Bool.and_eq_true,←a,←b];rcases kI A with⟨q,rfl⟩|⟨q,r,s,_⟩
  ·exact⟨fun j=>⟨j,q⟩,fun j=>j.1⟩
  ·have:=gS s;exact⟨fun j=>absurd j (by omega),fun j=>absurd j.2 q⟩

theorem rk {M:St}{k:Nat}{ts:List Bool}{l:Int}{e:Edge}(h:aC 4 M (k+1) ts l e)(z:ax (ts.drop (2 ^ k))=true):aC 4 M k (ts.take (2 ^ k)) (l+1) e:=by
 obtain⟨_,lo,hi,q,s,t⟩:=h;have b:=(jY _ _ _ _ s).2 z;rcases kI t with⟨j,rfl⟩|⟨j,_⟩
 ·exact q
 ·exact absurd b j

theorem Aj {M:St}(am:M.wf):∀(k:Nat) (ts:List Bool) (l:Int) (e:Edge),aC 4 M (k+1) ts l e→l+(k+1:Nat)=M.n→ax (ts.drop (2 ^ k))=false →
  ∃r,look M.cs e.to=some r∧r.I=l∧∀c z A,aM k (ts.take (2 ^ k)) (ts.drop (2 ^ k))=(c,z,A)→r.J=l+(k-c:Nat)∧aC 4 M c z (r.J+1) r.lo∧aC 4 M c A (r.J+1) r.hi:=by
 intro k
 induction k with
 |zero=>
  intro ts l e h Y O;obtain⟨_,lo,hi,q,t,W⟩:=h;rcases kI W with⟨S,_⟩|⟨S,r,Z,ad,N⟩
  ·rw[(jY _ _ _ _ t).1 S]at O;cases O
  ·refine⟨r,Z,ad,fun c z A U=>?_⟩;have s:(0,ts.take (2 ^ 0),ts.drop (2 ^ 0))=(c,z,A):=U;cases s;rcases N with⟨_,x,L,_⟩|⟨_,E,I,J⟩
   ·obtain⟨b,_,rfl⟩:=q;exfalso;have:=gS L;cases b;·exact this (show(0:Int)<2 by decide)
    ·exact this (show(1:Int)<2 by decide)
   ·rw[E,I,J];exact⟨by simp,q,t⟩
 |succ k a'=>
  intro ts l e h Y O;have bg:=h.length;obtain⟨_,lo,hi,q,t,W⟩:=h;have a4:l+1+(k+1:Nat)=M.n:=by push_cast at Y ⊢;omega
  rcases kI W with⟨S,_⟩|⟨S,r,Z,ad,N⟩
  ·rw[(jY _ _ _ _ t).1 S]at O;cases O
  ·refine⟨r,Z,ad,fun c z A U=>?_⟩;obtain⟨j,aw⟩:∃j,j=ts.take (2 ^ (k+1)):=⟨_,rfl⟩;obtain⟨K,a1⟩:∃K,K=ts.drop (2 ^ (k+1)):=⟨_,rfl⟩;rw[←aw,←a1]at U;rw[←aw]at q;rw[←a1]at t;have s:(if aF j K&&!ax (j.drop (2 ^ k))then aM k (j.take (2 ^ k)) (j.drop (2 ^ k))else(k+1,j,K))=(c,z,A):=U;by_cases ab:lo=hi
   ·subst ab;have X:j=K:=aC.inj am _ _ _ _ _ q t;subst X;rw[eD.2 rfl,Bool.true_and]at s;cases T:ax (j.drop (2 ^ k))with
    |true=>
     rw[T]at s;cases s;have a5:=rk q T;rcases N with⟨_,x,L,a6,_⟩|⟨_,E,I,J⟩
     ·have:=a5.I am (by decide) (by push_cast at Y ⊢;omega) L;omega
     ·rw[E,I,J];exact⟨by simp,q,q⟩
    |false=>
     rw[T]at s;obtain⟨y,a2,a8,a7⟩:=a' _ _ _ q a4 T;obtain⟨O,bb,be⟩:=a7 c z A s
     have O:c≤k:=by
      have:=mb k (j.take (2 ^ k)) (j.drop (2 ^ k));have O:(aM k (j.take (2 ^ k)) (j.drop (2 ^ k))).1=c:=(by rw[show aM k (j.take (2 ^ k)) (j.drop (2 ^ k))=(c,z,A)from s]);omega
     rcases N with⟨_,x,L,a6,E,I,J⟩|⟨av,_⟩
     ·rw[a2]at L;cases L;rw[E,I,J];exact⟨by omega,bb,be⟩
     ·exact absurd a8 (av rfl y a2)
   ·have X:aF j K=false:=ja.2 (fun a3=>ab (by subst a3;exact aC.dj am _ _ _ _ _ q t));rw[X]at s;cases s;rcases N with⟨av,_⟩|⟨_,E,I,J⟩
    ·exact absurd av ab
    ·rw[E,I,J];exact⟨by simp,q,t⟩

theorem jt:aB 0=⟨#[48]⟩:=by decide
theorem km:aB 1=⟨#[49]⟩:=by decide

theorem gE {f:Int}{M:St}{n:Nat}{e:Edge}(j:f≠5)(h:e.to<2):ay f M (n+1) e=aB e.to:=by
 show(if f=5 then _ else if e.to<2 then _ else _)=_;rw[if_neg j,if_pos h]

theorem rU {f:Int}{M:St}{n:Nat}{e:Edge}{r:Rec}(j:f=3∨f=4)(h:look M.cs e.to=some r) :
  ay f M (n+1) e=⟨#[40]⟩++aB r.I++⟨#[58]⟩++aB r.J++⟨#[32]⟩++ay f M n r.lo++⟨#[32]⟩++ay f M n r.hi++⟨#[41]⟩:=by
 show(if f=5 then _ else if e.to<2 then _ else if f=3∨f=4 then _ else _)=_
 rw[if_neg (by omega),if_neg (gS h),if_pos j,h]
 rfl

theorem BY {M:St}(T:M.wf):∀(k:Nat) (ts:List Bool) (l:Int) (e:Edge),aC 4 M k ts l e→l+(k:Nat)=M.n→∀m n,k≤m→k≤n→ay 4 M (m+1) e=cA (n+1) k ts l:=by
 intro k;induction k using Nat.strongRecOn with
 |ind k t=>
  intro ts l e h j m n N N;cases k with
  |zero=>
   obtain⟨b,rfl,rfl⟩:=h;cases b;·exact(gE (by decide) (show(0:Int)<2 by decide)).trans jt
   ·exact(gE (by decide) (show(1:Int)<2 by decide)).trans km
  |succ k=>
   have s:cA (n+1) (k+1) ts l=(if ax ts then⟨#[48]⟩else if ax (ts.drop (2 ^ k))then cA n k (ts.take (2 ^ k)) (l+1)
    else⟨#[40]⟩++aB l++⟨#[58]⟩++aB (l+(k-(aM k (ts.take (2 ^ k)) (ts.drop (2 ^ k))).1:Nat))++⟨#[32]⟩++cA n (aM k (ts.take (2 ^ k)) (ts.drop (2 ^ k))).1 (aM k (ts.take (2 ^ k)) (ts.drop (2 ^ k))).2.1 (l+(k-(aM k (ts.take (2 ^ k)) (ts.drop (2 ^ k))).1:Nat)+1)++⟨#[32]⟩++cA n (aM k (ts.take (2 ^ k)) (ts.drop (2 ^ k))).1 (aM k (ts.take (2 ^ k)) (ts.drop (2 ^ k))).2.2 (l+(k-(aM k (ts.take (2 ^ k)) (ts.drop (2 ^ k))).1:Nat)+1)++⟨#[41]⟩):=rfl
   rw[s];by_cases s:e.to=0
   ·rw[if_pos ((jY _ _ _ _ h).1 s),gE (by decide) (by omega),s];exact jt
   ·rw[if_neg (fun N=>s ((jY _ _ _ _ h).2 N))];obtain⟨n,rfl⟩:∃s,n=s+1:=⟨n-1,by omega⟩;cases I:ax (ts.drop (2 ^ k))with
    |true=>
     rw[if_pos rfl];exact t k (by omega) _ _ _ (rk h I) (by push_cast at j ⊢;omega) m n (by omega) (by omega)
    |false=>
     rw[if_neg (by decide)];obtain⟨r,O,S,L⟩:=Aj T k ts l e h j I;obtain⟨c,z,A,q⟩:∃c z A,aM k (ts.take (2 ^ k)) (ts.drop (2 ^ k))=(c,z,A):=⟨_,_,_,rfl⟩;obtain⟨E,J,K⟩:=L c z A q
     have s:c≤k:=by
      have:=mb k (ts.take (2 ^ k)) (ts.drop (2 ^ k));rw[q]at this;exact this
     obtain⟨m,rfl⟩:∃s,m=s+1:=⟨m-1,by omega⟩;rw[q,rU (.inr rfl) O];have q:r.J+1+(c:Nat)=M.n:=(by rw[E];push_cast at j ⊢;omega);rw[t c (by omega) _ _ _ J q m n (by omega) (by omega),t c (by omega) _ _ _ K q m n (by omega) (by omega),S,E]

theorem rV {f:Int}{M:St}{n:Nat}{e:Edge}{r:Rec}(j:f=1∨f=2)(h:look M.cs e.to=some r) :
  ay f M (n+1) e=⟨#[40]⟩++aB r.I++⟨#[32]⟩++ay f M n r.lo++⟨#[32]⟩++ay f M n r.hi++⟨#[41]⟩:=by
 show(if f=5 then _ else if e.to<2 then _ else if f=3∨f=4 then _ else _)=_
 rw[if_neg (by omega),if_neg (gS h),if_neg (by omega),h]
 rfl

theorem xB {M:St}{l:Int}{lo hi e:Edge}(h:cR 1 M l lo hi e) :
  (lo=hi∧e=lo)∨(lo≠hi∧∃r,look M.cs e.to=some r∧r.I=l∧r.lo=lo∧r.hi=hi):=by
 rcases h.up with u|⟨r,u,q,_⟩
 ·rw[fe]at u;unfold al bY at u;split at u;·cases u
  ·split at u;·cases u
   ·split at u
    ·rename_i j;cases u;exact .inl ⟨j,rfl⟩
    ·cases u
 ·rw[fe]at u;unfold al bY at u;split at u;·cases u
  ·split at u;·cases u
   ·split at u;·cases u
    ·rename_i j;cases u;exact .inr ⟨j,_,q,rfl,rfl,rfl⟩

theorem p9 {M:St}{l:Int}{lo hi e:Edge}(h:cR 2 M l lo hi e) :
  (hi.to=0∧e=lo)∨(hi.to≠0∧∃r,look M.cs e.to=some r∧r.I=l∧r.lo=lo∧r.hi=hi):=by
 rcases h.up with u|⟨r,u,q,_⟩
 ·rw[ff]at u;unfold al cr at u;split at u;·cases u
  ·split at u;·cases u
   ·split at u
    ·rename_i j;cases u;exact .inl ⟨j,rfl⟩
    ·cases u
 ·rw[ff]at u;unfold al cr at u;split at u;·cases u
  ·split at u;·cases u
   ·split at u;·cases u
    ·rename_i j;cases u;exact .inr ⟨j,_,q,rfl,rfl,rfl⟩

theorem BV {M:St}(t:M.wf):∀(k:Nat) (ts:List Bool) (l:Int) (e:Edge),aC 1 M k ts l e→∀m,k≤m→ay 1 M (m+1) e=cw k ts l:=by
 intro k;induction k with
 |zero=>
  intro ts l e h m A;obtain⟨b,rfl,rfl⟩:=h;cases b;·exact(gE (by decide) (show(0:Int)<2 by decide)).trans jt
  ·exact(gE (by decide) (show(1:Int)<2 by decide)).trans km
 |succ k s=>
  intro ts l e h m A;have I:cw (k+1) ts l=(if aF (ts.take (2 ^ k)) (ts.drop (2 ^ k))then cw k (ts.take (2 ^ k)) (l+1)else⟨#[40]⟩++aB l++⟨#[32]⟩++cw k (ts.take (2 ^ k)) (l+1)++⟨#[32]⟩++cw k (ts.drop (2 ^ k)) (l+1)++⟨#[41]⟩):=rfl;rw[I];obtain⟨_,lo,hi,j,q,z⟩:=h;rcases xB z with⟨rfl,rfl⟩|⟨I,r,E,J,K,L⟩
  ·rw[if_pos (eD.2 (aC.inj t _ _ _ _ _ j q))];exact s _ _ _ j m (by omega)
  ·have A:aF (ts.take (2 ^ k)) (ts.drop (2 ^ k))=false:=ja.2 (fun z=>I (by rw[z]at j;exact aC.dj t _ _ _ _ _ j q));rw[A,if_neg (by decide)];obtain⟨m,rfl⟩:∃t,m=t+1:=⟨m-1,by omega⟩;rw[rV (.inl rfl) E,J,K,L,s _ _ _ j m (by omega),s _ _ _ q m (by omega)]

theorem sl {M:St}:∀(k:Nat) (ts:List Bool) (l:Int) (e:Edge),aC 2 M k ts l e→(e.to=0↔ax ts=true):=by
 intro k;induction k with
 |zero=>
  intro ts l e h;obtain⟨b,rfl,rfl⟩:=h;cases b;·exact⟨fun _=>rfl,fun _=>rfl⟩
  ·exact⟨fun j=>(by cases j),fun j=>(by cases j)⟩
 |succ k s=>
  intro ts l e h;obtain⟨_,lo,hi,t,z,A⟩:=h;have a:=s _ _ _ t;have b:=s _ _ _ z;rw[kS (2 ^ k),Bool.and_eq_true,←a,←b];rcases p9 A with⟨q,rfl⟩|⟨q,r,s,_⟩
  ·exact⟨fun j=>⟨j,q⟩,fun j=>j.1⟩
  ·have:=gS s;exact⟨fun j=>absurd j (by omega),fun j=>absurd j.2 q⟩

theorem BW {M:St}:∀(k:Nat) (ts:List Bool) (l:Int) (e:Edge),aC 2 M k ts l e→∀m,k≤m→ay 2 M (m+1) e=cB k ts l:=by
 intro k;induction k with
 |zero=>
  intro ts l e h m A;obtain⟨b,rfl,rfl⟩:=h;cases b;·exact(gE (by decide) (show(0:Int)<2 by decide)).trans jt
  ·exact(gE (by decide) (show(1:Int)<2 by decide)).trans km
 |succ k q=>
  intro ts l e h m A;have I:cB (k+1) ts l=(if ax (ts.drop (2 ^ k))then cB k (ts.take (2 ^ k)) (l+1)else⟨#[40]⟩++aB l++⟨#[32]⟩++cB k (ts.take (2 ^ k)) (l+1)++⟨#[32]⟩++cB k (ts.drop (2 ^ k)) (l+1)++⟨#[41]⟩):=rfl;rw[I];obtain⟨_,lo,hi,t,j,z⟩:=h;rcases p9 z with⟨s,rfl⟩|⟨s,r,E,J,K,L⟩
  ·rw[if_pos ((sl _ _ _ _ j).1 s)];exact q _ _ _ t m (by omega)
  ·rw[if_neg (fun z=>s ((sl _ _ _ _ j).2 z))];obtain⟨m,rfl⟩:∃s,m=s+1:=⟨m-1,by omega⟩;rw[rV (.inr rfl) E,J,K,L,q _ _ _ t m (by omega),q _ _ _ j m (by omega)]

theorem mK {M:St}{l:Int}{lo hi e:Edge}(h:cR 3 M l lo hi e) :
  (lo=hi∧e=lo)∨(lo≠hi∧∃r,look M.cs e.to=some r∧r.I=l ∧
   ((∃x,look M.cs lo.to=some x∧x.I=l+1∧x.hi=hi∧r.J=x.J∧r.lo=x.lo∧r.hi=hi) ∨
    ((∀x,look M.cs lo.to=some x→x.I=l+1→x.hi≠hi)∧r.J=l∧r.lo=lo∧r.hi=hi))):=by
 rcases h.up with u|⟨r,u,E,_⟩
 ·rw[fU]at u;unfold al aW at u;split at u;·cases u
  ·split at u;·cases u
   ·split at u
    ·rename_i z;cases u;exact .inl ⟨z,rfl⟩
    ·split at u;·cases u
     ·split at u;·split at u<;>cases u
      ·cases u
 ·rw[fU]at u;unfold al aW at u;split at u;·cases u
  ·split at u;·cases u
   ·split at u;·cases u
    ·rename_i z;refine .inr ⟨z,r,E,?_⟩;split at u
     ·rename_i j;cases u;exact⟨rfl,.inr ⟨fun x A=>(by rw[j]at A;cases A),rfl,rfl,rfl⟩⟩
     ·rename_i x j;split at u
      ·rename_i t;split at u
       ·rename_i s;cases u;exact⟨rfl,.inl ⟨x,j,t,s,rfl,rfl,rfl⟩⟩
       ·rename_i s;cases u;exact⟨rfl,.inr ⟨fun y q _=>(by rw[j]at q;cases q;exact s),rfl,rfl,rfl⟩⟩
      ·rename_i t;cases u;exact⟨rfl,.inr ⟨fun y q I=>(by rw[j]at q;cases q;exact absurd I t),rfl,rfl,rfl⟩⟩

theorem jP {M:St}(z:M.wf){k:Nat}{ts:List Bool}{l:Int}{e:Edge}(h:aC 3 M (k+1) ts l e)(t:ts.take (2 ^ k)=ts.drop (2 ^ k)):aC 3 M k (ts.take (2 ^ k)) (l+1) e:=by
 obtain⟨_,lo,hi,j,q,s⟩:=h;have:lo=hi:=aC.dj z _ _ _ _ _ j (t ▸ q);rcases mK s with⟨_,rfl⟩|⟨q,_⟩
 ·exact j
 ·exact absurd this q

theorem o6 {M:St}(z:M.wf):∀(k:Nat) (lo hi:List Bool) (l:Int) (e:Edge) (c:Nat) (s q:List Bool),aK k lo hi=(c,s,q)→aC 3 M k hi l e→aC 3 M c q (l+(k-c:Nat)) e:=by
 intro k;induction k with
 |zero=>
  intro lo hi l e c s q t h;have j:(0,lo,hi)=(c,s,q):=t;cases j;simpa using h
 |succ k A=>
  intro lo hi l e c s q t h;have j:(if !aF (lo.take (2 ^ k)) (lo.drop (2 ^ k))&&aF (hi.take (2 ^ k)) (hi.drop (2 ^ k))&&aF (hi.take (2 ^ k)) (lo.drop (2 ^ k))then aK k (lo.take (2 ^ k)) (lo.drop (2 ^ k))else(k+1,lo,hi))=(c,s,q):=t;split at j
  ·rename_i q;rw[Bool.and_eq_true,Bool.and_eq_true]at q;have s:=eD.1 q.1.2;have t:=eD.1 q.2;have q:=jP z h s;rw[t]at q;have s:=A _ _ _ _ _ _ _ j q
   have q:c≤k:=by
    have:=jr k (lo.take (2 ^ k)) (lo.drop (2 ^ k));rw[j]at this;exact this
   rwa[show l+1+((k-c:Nat):Int)=l+((k+1-c:Nat):Int) by omega]at s
  ·cases j;simpa using h

theorem Ai {M:St}(s:M.wf):∀(k:Nat) (ts:List Bool) (l:Int) (e:Edge),aC 3 M (k+1) ts l e→l+(k+1:Nat)=M.n→ts.take (2 ^ k)≠ts.drop (2 ^ k) →
  ∃r,look M.cs e.to=some r∧r.I=l∧∀c I J,aK k (ts.take (2 ^ k)) (ts.drop (2 ^ k))=(c,I,J)→r.J=l+(k-c:Nat)∧aC 3 M c I (r.J+1) r.lo∧aC 3 M c J (r.J+1) r.hi:=by
 intro k
 induction k with
 |zero=>
  intro ts l e h am av;obtain⟨_,lo,hi,t,z,ab⟩:=h;rcases mK ab with⟨rfl,_⟩|⟨b2,r,a1,a2,T⟩
  ·exact absurd (aC.inj s _ _ _ _ _ t z) av
  ·refine⟨r,a1,a2,fun c I J W=>?_⟩;have A:(0,ts.take (2 ^ 0),ts.drop (2 ^ 0))=(c,I,J):=W;cases A;rcases T with⟨x,E,_⟩|⟨_,K,L,N⟩
   ·obtain⟨b,_,rfl⟩:=t;exfalso;have:=gS E;cases b;·exact this (show(0:Int)<2 by decide)
    ·exact this (show(1:Int)<2 by decide)
   ·rw[K,L,N];exact⟨by simp,t,z⟩
 |succ k bp=>
  intro ts l e h am av;obtain⟨_,lo,hi,t,z,ab⟩:=h;have bb:l+1+(k+1:Nat)=M.n:=by push_cast at am ⊢;omega
  have be:l+1+1+(k:Nat)=M.n:=by push_cast at am ⊢;omega
  rcases mK ab with⟨rfl,_⟩|⟨b2,r,a1,a2,T⟩
  ·exact absurd (aC.inj s _ _ _ _ _ t z) av
  ·refine⟨r,a1,a2,fun c I J W=>?_⟩;obtain⟨j,a8⟩:∃j,j=ts.take (2 ^ (k+1)):=⟨_,rfl⟩;obtain⟨q,a'⟩:∃q,q=ts.drop (2 ^ (k+1)):=⟨_,rfl⟩;rw[←a8,←a']at W;rw[←a8]at t;rw[←a']at z;have A:(if !aF (j.take (2 ^ k)) (j.drop (2 ^ k))&&aF (q.take (2 ^ k)) (q.drop (2 ^ k))&&aF (q.take (2 ^ k)) (j.drop (2 ^ k))then aK k (j.take (2 ^ k)) (j.drop (2 ^ k))else(k+1,j,q))=(c,I,J):=W;by_cases X:j.take (2 ^ k)=j.drop (2 ^ k)
   ·rw[eD.2 X]at A;cases A;have bx:=jP s t X;rcases T with⟨x,E,bi,_⟩|⟨_,K,L,N⟩
    ·have:=bx.I s (by decide) be E;omega
    ·rw[K,L,N];exact⟨by simp,t,z⟩
   ·obtain⟨y,a3,b0,bn⟩:=bp _ _ _ t bb X;rw[ja.2 X]at A;by_cases S:q.take (2 ^ k)=q.drop (2 ^ k)∧q.take (2 ^ k)=j.drop (2 ^ k)
    ·rw[eD.2 S.1,eD.2 S.2]at A;have U:aK k (j.take (2 ^ k)) (j.drop (2 ^ k))=(c,I,J):=A;obtain⟨a6,bq,a7⟩:=bn c I J U
     have bt:c≤k:=by
      have:=jr k (j.take (2 ^ k)) (j.drop (2 ^ k));rw[U]at this;exact this
     have W:=jP s z S.1;rw[S.2]at W;have O:=o6 s _ _ _ _ _ _ _ _ U W;have Y:l+1+1+((k-c:Nat):Int)=y.J+1:=(by rw[a6];omega);rw[Y]at O;have bw:y.hi=hi:=aC.dj s _ _ _ _ _ a7 O;rcases T with⟨x,E,bi,bg,K,L,N⟩|⟨b1,_⟩
     ·rw[a3]at E;cases E;rw[K,L,N];exact⟨by omega,bq,O⟩
     ·exact absurd bw (b1 y a3 b0)
    ·have U:(k+1,j,q)=(c,I,J):=by
      have:(!false&&aF (q.take (2 ^ k)) (q.drop (2 ^ k))&&aF (q.take (2 ^ k)) (j.drop (2 ^ k)))=false:=by
       rw[Bool.not_false,Bool.true_and];cases br:aF (q.take (2 ^ k)) (q.drop (2 ^ k))with
       |false=>rfl
       |true=>
        rw[Bool.true_and];cases bs:aF (q.take (2 ^ k)) (j.drop (2 ^ k))with
        |false=>rfl
        |true=>exact absurd ⟨eD.1 br,eD.1 bs⟩ S
      rw[this]at A;exact A
     rcases T with⟨x,E,bi,bg,K,L,N⟩|⟨_,K,L,N⟩
     ·exfalso;rw[a3]at E;cases E;obtain⟨d,a4,a5,ad⟩:∃c a4 a5,aK k (j.take (2 ^ k)) (j.drop (2 ^ k))=(c,a4,a5):=⟨_,_,_,rfl⟩;obtain⟨a6,bq,a7⟩:=bn d a4 a5 ad
      have bt:d≤k:=by
       have:=jr k (j.take (2 ^ k)) (j.drop (2 ^ k));rw[ad]at this;exact this
      obtain⟨_,A,j,_,Z,_⟩:=id t;have O:=o6 s _ _ _ _ _ _ _ _ ad Z;have Y:l+1+1+((k-d:Nat):Int)=y.J+1:=(by rw[a6];omega);rw[Y]at O;have bv:j=hi:=(aC.dj s _ _ _ _ _ O a7).trans bg;subst bv;by_cases aw:q.take (2 ^ k)=q.drop (2 ^ k);·exact S ⟨aw,aC.inj s _ _ _ _ _ (jP s z aw) Z⟩
      ·obtain⟨v,j,q,_⟩:=bp _ _ _ z bb aw;have:=Z.I s (by decide) be j;omega
     ·cases U;rw[K,L,N];exact⟨by simp,t,z⟩

theorem BX {M:St}(I:M.wf):∀(k:Nat) (ts:List Bool) (l:Int) (e:Edge),aC 3 M k ts l e→l+(k:Nat)=M.n→∀m n,k≤m→k≤n→ay 3 M (m+1) e=cz (n+1) k ts l:=by
 intro k;induction k using Nat.strongRecOn with
 |ind k s=>
  intro ts l e h j m n T T;cases k with
  |zero=>
   obtain⟨b,rfl,rfl⟩:=h;cases b;·exact(gE (by decide) (show(0:Int)<2 by decide)).trans jt
   ·exact(gE (by decide) (show(1:Int)<2 by decide)).trans km
  |succ k=>
   have O:cz (n+1) (k+1) ts l=(if aF (ts.take (2 ^ k)) (ts.drop (2 ^ k))then cz n k (ts.take (2 ^ k)) (l+1)
    else⟨#[40]⟩++aB l++⟨#[58]⟩++aB (l+(k-(aK k (ts.take (2 ^ k)) (ts.drop (2 ^ k))).1:Nat))++⟨#[32]⟩++cz n (aK k (ts.take (2 ^ k)) (ts.drop (2 ^ k))).1 (aK k (ts.take (2 ^ k)) (ts.drop (2 ^ k))).2.1 (l+(k-(aK k (ts.take (2 ^ k)) (ts.drop (2 ^ k))).1:Nat)+1)++⟨#[32]⟩++cz n (aK k (ts.take (2 ^ k)) (ts.drop (2 ^ k))).1 (aK k (ts.take (2 ^ k)) (ts.drop (2 ^ k))).2.2 (l+(k-(aK k (ts.take (2 ^ k)) (ts.drop (2 ^ k))).1:Nat)+1)++⟨#[41]⟩):=rfl
   rw[O];obtain⟨n,rfl⟩:∃O,n=O+1:=⟨n-1,by omega⟩;cases E:aF (ts.take (2 ^ k)) (ts.drop (2 ^ k))with
   |true=>
    rw[if_pos rfl];exact s k (by omega) _ _ _ (jP I h (eD.1 E)) (by push_cast at j ⊢;omega) m n (by omega) (by omega)
   |false=>
    rw[if_neg (by decide)];obtain⟨r,N,S,L⟩:=Ai I k ts l e h j (ja.1 E);obtain⟨c,t,z,q⟩:∃c t z,aK k (ts.take (2 ^ k)) (ts.drop (2 ^ k))=(c,t,z):=⟨_,_,_,rfl⟩;obtain⟨A,J,K⟩:=L c t z q
    have t:c≤k:=by
     have:=jr k (ts.take (2 ^ k)) (ts.drop (2 ^ k));rw[q]at this;exact this
    obtain⟨m,rfl⟩:∃t,m=t+1:=⟨m-1,by omega⟩;rw[q,rU (.inl rfl) N];have q:r.J+1+(c:Nat)=M.n:=(by rw[A];push_cast at j ⊢;omega);rw[s c (by omega) _ _ _ J q m n (by omega) (by omega),s c (by omega) _ _ _ K q m n (by omega) (by omega),S,A]

theorem p' {M:St}{l:Int}{lo hi e:Edge}(h:cR 5 M l lo hi e) :
  (lo=hi∧e=lo)∨(lo≠hi∧hi.to=0∧lo.tag=l+1∧e=⟨l,lo.to⟩)∨(lo≠hi∧¬(hi.to=0∧lo.tag=l+1)∧e.tag=l∧∃r,look M.cs e.to=some r∧r.I=l∧r.lo=lo∧r.hi=hi):=by
 rcases h.up with u|⟨r,u,s,t⟩
 ·rw[fH]at u;unfold bo at u;split at u;·cases u
  ·split at u;·cases u
   ·split at u
    ·rename_i j;cases u;exact .inl ⟨j,rfl⟩
    ·rename_i j;split at u
     ·rename_i q;cases u;exact .inr (.inl ⟨j,q.1,q.2,rfl⟩)
     ·cases u
 ·rw[fH]at u;unfold bo at u;split at u;·cases u
  ·split at u;·cases u
   ·split at u;·cases u
    ·rename_i j;split at u;·cases u
     ·rename_i q;cases u;exact .inr (.inr ⟨j,q,t,_,s,rfl,rfl,rfl⟩)

theorem oA {M:St}:∀(k:Nat) (ts:List Bool) (l:Int) (e:Edge),aC 5 M k ts l e→(ax ts=true→e=⟨0,0⟩)∧(e.to=0→ax ts=true):=by
 intro k;induction k with
 |zero=>
  intro ts l e h;obtain⟨b,rfl,rfl⟩:=h;cases b;·exact⟨fun _=>rfl,fun _=>rfl⟩
  ·exact⟨fun j=>(by cases j),fun j=>(by cases j)⟩
 |succ k s=>
  intro ts l e h;obtain⟨_,lo,hi,z,A,E⟩:=h;have a:=s _ _ _ z;have b:=s _ _ _ A;rw[kS (2 ^ k),Bool.and_eq_true];rcases p' E with⟨rfl,rfl⟩|⟨q,t,I,rfl⟩|⟨q,t,I,r,s,_⟩
  ·exact⟨fun j=>a.1 j.1,fun j=>⟨a.2 j,b.2 j⟩⟩
  ·refine⟨fun j=>absurd ((a.1 j.1).trans (b.1 j.2).symm) q,fun j=>⟨a.2 j,b.2 t⟩⟩
  ·have:=gS s;exact⟨fun j=>absurd ((a.1 j.1).trans (b.1 j.2).symm) q,fun j=>absurd j (by omega)⟩

theorem rA:∀(k:Nat) (ts:List Bool),fA k ts=false→aS k ts=(k,ts):=by
 intro k ts h;cases k with
 |zero=>rfl
 |succ k=>
  have j:aF (ts.take (2 ^ k)) (ts.drop (2 ^ k))=false:=h;show(if aF (ts.take (2 ^ k)) (ts.drop (2 ^ k))=true then _ else _)=_;rw[j];rfl

theorem AP {k:Nat}{ts:List Bool}(h:fA k ts=true):(aS k ts).1<k:=by
 cases k with
 |zero=>cases h
 |succ k=>
  have j:aF (ts.take (2 ^ k)) (ts.drop (2 ^ k))=true:=h
  have:aS (k+1) ts=aS k (ts.take (2 ^ k)):=by
   show(if aF (ts.take (2 ^ k)) (ts.drop (2 ^ k))=true then _ else _)=_;rw[if_pos j]
  rw[this];have:=lz k (ts.take (2 ^ k));omega

theorem Ak {M:St}(ad:M.wf):∀(k:Nat) (ts:List Bool) (l:Int) (e:Edge),aC 5 M k ts l e→0≤l→ax ts=false →
  e.tag=l+(k-(aS k ts).1:Nat)∧∀c q,cm (aS k ts).1 (aS k ts).2=(c,q) →
   (c=0→e.to=1)∧∀t,c=t+1→∃r,look M.cs e.to=some r∧r.I=l+(k-c:Nat)∧aC 5 M t (q.take (2 ^ t)) (r.I+1) r.lo∧aC 5 M t (q.drop (2 ^ t)) (r.I+1) r.hi:=by
 intro k
 induction k with
 |zero=>
  intro ts l e h bn Z;obtain⟨b,rfl,rfl⟩:=h;cases b;·cases Z
  ·refine⟨by show l=l+((0-0:Nat):Int);simp,fun c q A=>?_⟩;have E:(0,[true])=(c,q):=A;cases E;exact⟨fun _=>rfl,fun t L=>by omega⟩
 |succ k am=>
  intro ts l e h bn Z;have h:=id h;obtain⟨_,lo,hi,z,I,bp⟩:=id h;have a0:=oA _ _ _ _ z;have X:=oA _ _ _ _ I;obtain⟨j,S⟩:∃j,j=ts.take (2 ^ k):=⟨_,rfl⟩;obtain⟨s,T⟩:∃s,s=ts.drop (2 ^ k):=⟨_,rfl⟩;have K:(ax j&&ax s)=false:=by rw[S,T,←kS];exact Z
  have hS:aS (k+1) ts=(if aF j s then aS k j else(k+1,ts)):=by rw[S,T];rfl
  have a8:cm (k+1) ts=(if ax s&&!fA k j then cm k j else(k+1,ts)):=by rw[S,T];rfl
  have be:ts.take (2 ^ k)=j:=S.symm;have bg:ts.drop (2 ^ k)=s:=T.symm;rw[be]at z a0;rw[bg]at I X;have S:=lz k j;rcases p' bp with⟨rfl,rfl⟩|⟨a7,a2,bi,rfl⟩|⟨a7,a2,bi,r,bs,ab,bv,bt⟩
  ·have J:j=s:=aC.inj ad _ _ _ _ _ z I;rw[←J,Bool.and_self]at K;obtain⟨N,W⟩:=am _ _ _ z (by omega) K;rw[hS,eD.2 J,if_pos rfl];refine⟨by rw[N];omega,fun c q A=>?_⟩;obtain⟨av,aw⟩:=W c q A
   have bq:c≤(aS k j).1:=by
    have:=lA (aS k j).1 (aS k j).2;rw[A]at this;exact this
   refine⟨av,fun t L=>?_⟩;obtain⟨r,a3,a4,a5,a6⟩:=aw t L;exact⟨r,a3,by rw[a4];omega,a5,a6⟩
  ·have J:j≠s:=fun U=>a7 (by subst U;exact aC.dj ad _ _ _ _ _ z I);have O:ax s=true:=X.2 a2;have a1:ax j=false:=(by rw[O,Bool.and_true]at K;exact K);obtain⟨N,W⟩:=am _ _ _ z (by omega) a1
   have a':fA k j=false:=by
    cases Y:fA k j with
    |false=>rfl
    |true=>
     have:=AP Y;omega
   rw[rA k j a']at W;rw[hS,ja.2 J,if_neg (by decide)];refine⟨by show l=_;simp,fun c q A=>?_⟩;have E:cm (k+1) ts=(c,q):=A;rw[a8,O,a']at E;have bb:cm k j=(c,q):=E;obtain⟨av,aw⟩:=W c q bb
   have bq:c≤k:=by
    have:=lA k j;rw[bb]at this;exact this
   refine⟨av,fun t L=>?_⟩;obtain⟨r,a3,a4,a5,a6⟩:=aw t L;exact⟨r,a3,by rw[a4];omega,a5,a6⟩
  ·have J:j≠s:=fun U=>a7 (by subst U;exact aC.dj ad _ _ _ _ _ z I);rw[hS,ja.2 J,if_neg (by decide)];refine⟨by rw[bi];simp,fun c q A=>?_⟩;have E:cm (k+1) ts=(c,q):=A
   have br:(ax s&&!fA k j)=false:=by
    cases O:ax s with
    |false=>rfl
    |true=>
     have a1:ax j=false:=(by rw[O,Bool.and_true]at K;exact K);cases Y:fA k j with
     |true=>rfl
     |false=>
      exfalso;obtain⟨N,_⟩:=am _ _ _ z (by omega) a1;rw[rA k j Y]at N;exact a2 ⟨by rw[X.1 O],by rw[N];simp⟩
   rw[a8,br]at E;cases E;refine⟨fun U=>by omega,fun t L=>?_⟩;obtain rfl:k=t:=(by omega);refine⟨r,bs,by rw[ab];simp,?_,?_⟩;·rw[ab,bv,be];exact z
   ·rw[ab,bt,bg];exact I

theorem Cl {M:St}{n:Nat}{e:Edge}(h:e.to=0):ay 5 M (n+1) e=⟨#[48]⟩:=by
 show(if(5:Int)=5 then(if e.to=0 then _ else _)else _)=_;rw[if_pos (by decide),if_pos h]

theorem Cm {M:St}{n:Nat}{e:Edge}(h:e.to=1):ay 5 M (n+1) e=aB e.tag++⟨#[64]⟩++⟨#[49]⟩:=by
 show(if(5:Int)=5 then(if e.to=0 then _ else if e.to=1 then _ else _)else _)=_;rw[if_pos (by decide),if_neg (by omega),if_pos h]

theorem Ck {M:St}{n:Nat}{e:Edge}{r:Rec}(h:look M.cs e.to=some r) :
  ay 5 M (n+1) e=aB e.tag++⟨#[64]⟩++⟨#[40]⟩++aB r.I++⟨#[32]⟩++ay 5 M n r.lo++⟨#[32]⟩++ay 5 M n r.hi++⟨#[41]⟩:=by
 have:=gS h
 show(if(5:Int)=5 then(if e.to=0 then _ else if e.to=1 then _ else _)else _)=_
 rw[if_pos (by decide),if_neg (by omega),if_neg (by omega),h]
 rfl

theorem BZ {M:St}(J:M.wf):∀(k:Nat) (ts:List Bool) (l:Int) (e:Edge),aC 5 M k ts l e→l+(k:Nat)=M.n→0≤l→∀m n,k≤m→k≤n→ay 5 M (m+1) e=dn (n+1) k ts l:=by
 intro k;induction k using Nat.strongRecOn with
 |ind k t=>
  intro ts l e h W E m n W W
  have I:dn (n+1) k ts l=(if ax ts then⟨#[48]⟩else
   match cm (aS k ts).1 (aS k ts).2 with
   |(0,_)=>aB (l+(k-(aS k ts).1:Nat))++⟨#[64]⟩++⟨#[49]⟩
   |(c+1,j)=>aB (l+(k-(aS k ts).1:Nat))++⟨#[64]⟩++⟨#[40]⟩++aB (l+(k-(c+1):Nat))++⟨#[32]⟩++dn n c (j.take (2 ^ c)) (l+(k-c:Nat))++⟨#[32]⟩++dn n c (j.drop (2 ^ c)) (l+(k-c:Nat))++⟨#[41]⟩):=rfl
  rw[I];have K:=oA _ _ _ _ h;cases s:ax ts with
  |true=>rw[if_pos rfl];exact Cl (by rw[K.1 s])
  |false=>
   rw[if_neg (by decide)];obtain⟨A,U⟩:=Ak J k ts l e h E s;obtain⟨c,j,q⟩:∃c j,cm (aS k ts).1 (aS k ts).2=(c,j):=⟨_,_,rfl⟩;obtain⟨L,N⟩:=U c j q;have j:=lz k ts
   have j:c≤(aS k ts).1:=by
    have:=lA (aS k ts).1 (aS k ts).2;rw[q]at this;exact this
   rw[q];cases c with
   |zero=>
    simp only[];rw[Cm (L rfl),A]
   |succ c=>
    simp only[];obtain⟨r,O,z,S,T⟩:=N c rfl;obtain⟨m,rfl⟩:∃j,m=j+1:=⟨m-1,by omega⟩;obtain⟨n,rfl⟩:∃j,n=j+1:=⟨n-1,by omega⟩;have j:r.I+1+(c:Nat)=M.n:=(by rw[z];omega);rw[Ck O,t c (by omega) _ _ _ S j (by omega) m n (by omega) (by omega),t c (by omega) _ _ _ T j (by omega) m n (by omega) (by omega),A,z];rw[show l+((k-(c+1):Nat):Int)+1=l+((k-c:Nat):Int) by omega]

def bj (f:Int)(k:Nat)(ts:List Bool)(l:Int):ByteArray:=
 if f=1 then cw k ts l else if f=2 then cB k ts l else if f=3 then cz (k+1) k ts l else if f=4 then cA (k+1) k ts l else dn (k+1) k ts l

theorem kx {f:Int}(j:1≤f∧f≤5):f=1∨f=2∨f=3∨f=4∨f=5:=by omega

theorem B1 {f:Int}{M:St}(q:M.wf)(z:1≤f∧f≤5){k:Nat}{ts:List Bool}{l:Int}{e:Edge}(h:aC f M k ts l e)(s:l+(k:Nat)=M.n)(t:0≤l)(m:Nat)(j:k≤m):ay f M (m+1) e=bj f k ts l:=by
 rcases kx z with rfl|rfl|rfl|rfl|rfl;·exact BV q k ts l e h m j
 ·exact BW k ts l e h m j
 ·exact BX q k ts l e h s m k j (Nat.le_refl _)
 ·exact BY q k ts l e h s m k j (Nat.le_refl _)
 ·exact BZ q k ts l e h s t m k j (Nat.le_refl _)

theorem xg (s:Nat)(e:Edge)(d:Int)(x:ByteArray)(w:World)(q:∀j,aa w j→Calls Tryz.prog 171 #[.pointer (some ⟨s,0,none⟩),.agg #[.int .u8 e.tag,.int .u32 e.to],.int .i64 d] j fun r w'=>r=.returned (.string x)∧aa j w') :
  Calls Tryz.prog 107 #[.pointer (some ⟨s,0,none⟩),.int .u8 1,.agg #[.int .u8 e.tag,.int .u32 e.to],.int .i64 d] w fun r w'=>r=.returned (.string x)∧aa w w':=by
 have H:=Lib.hid q
 clear q
 go_enter Tryz.func107,Tryz.ntmps107
 go_wp2_with (first|(go_at_call 171;refine(H.out _ (by(exact kp))).mono ?_;rintro r w1 ⟨rfl,j⟩)|fail)
 go_ret
 exact⟨rfl,by(exact kp)⟩

theorem xa (B off p cap:Nat)(l:Int)(x:ByteArray)(w:World)(q:∀j,aa w j→Calls Tryz.prog 180 #[.slice (some ⟨B,off,none⟩) p cap,.int .i64 l] j fun r w'=>r=.returned (.string x)∧aa j w') :
  Calls Tryz.prog 114 #[.int .u8 1,.slice (some ⟨B,off,none⟩) p cap,.int .i64 l] w fun r w'=>r=.returned (.string x)∧aa w w':=by
 have H:=Lib.hid q
 clear q
 go_enter Tryz.func114,Tryz.ntmps114
 go_wp2_with (first|(go_at_call 180;refine(H.out _ (by(exact kp))).mono ?_;rintro r w1 ⟨rfl,j⟩)|fail)
 go_ret
 exact⟨rfl,by(exact kp)⟩

theorem xk (s:Nat)(e:Edge)(d:Int)(x:ByteArray)(w:World)(q:∀j,aa w j→Calls Tryz.prog 172 #[.pointer (some ⟨s,0,none⟩),.agg #[.int .u8 e.tag,.int .u32 e.to],.int .i64 d] j fun r w'=>r=.returned (.string x)∧aa j w') :
  Calls Tryz.prog 107 #[.pointer (some ⟨s,0,none⟩),.int .u8 2,.agg #[.int .u8 e.tag,.int .u32 e.to],.int .i64 d] w fun r w'=>r=.returned (.string x)∧aa w w':=by
 have H:=Lib.hid q
 clear q
 go_enter Tryz.func107,Tryz.ntmps107
 go_wp2_with (first|(go_at_call 172;refine(H.out _ (by(exact kp))).mono ?_;rintro r w1 ⟨rfl,j⟩)|fail)
 go_ret
 exact⟨rfl,by(exact kp)⟩

theorem xe (B off p cap:Nat)(l:Int)(x:ByteArray)(w:World)(q:∀j,aa w j→Calls Tryz.prog 181 #[.slice (some ⟨B,off,none⟩) p cap,.int .i64 l] j fun r w'=>r=.returned (.string x)∧aa j w') :
  Calls Tryz.prog 114 #[.int .u8 2,.slice (some ⟨B,off,none⟩) p cap,.int .i64 l] w fun r w'=>r=.returned (.string x)∧aa w w':=by
 have H:=Lib.hid q
 clear q
 go_enter Tryz.func114,Tryz.ntmps114
 go_wp2_with (first|(go_at_call 181;refine(H.out _ (by(exact kp))).mono ?_;rintro r w1 ⟨rfl,j⟩)|fail)
 go_ret
 exact⟨rfl,by(exact kp)⟩

theorem xh (s:Nat)(e:Edge)(d:Int)(x:ByteArray)(w:World)(q:∀j,aa w j→Calls Tryz.prog 173 #[.pointer (some ⟨s,0,none⟩),.agg #[.int .u8 e.tag,.int .u32 e.to],.int .i64 d] j fun r w'=>r=.returned (.string x)∧aa j w') :
  Calls Tryz.prog 107 #[.pointer (some ⟨s,0,none⟩),.int .u8 3,.agg #[.int .u8 e.tag,.int .u32 e.to],.int .i64 d] w fun r w'=>r=.returned (.string x)∧aa w w':=by
 have H:=Lib.hid q
 clear q
 go_enter Tryz.func107,Tryz.ntmps107
 go_wp2_with (first|(go_at_call 173;refine(H.out _ (by(exact kp))).mono ?_;rintro r w1 ⟨rfl,j⟩)|fail)
 go_ret
 exact⟨rfl,by(exact kp)⟩

theorem xb (B off p cap:Nat)(l:Int)(x:ByteArray)(w:World)(q:∀j,aa w j→Calls Tryz.prog 182 #[.slice (some ⟨B,off,none⟩) p cap,.int .i64 l] j fun r w'=>r=.returned (.string x)∧aa j w') :
  Calls Tryz.prog 114 #[.int .u8 3,.slice (some ⟨B,off,none⟩) p cap,.int .i64 l] w fun r w'=>r=.returned (.string x)∧aa w w':=by
 have H:=Lib.hid q
 clear q
 go_enter Tryz.func114,Tryz.ntmps114
 go_wp2_with (first|(go_at_call 182;refine(H.out _ (by(exact kp))).mono ?_;rintro r w1 ⟨rfl,j⟩)|fail)
 go_ret
 exact⟨rfl,by(exact kp)⟩

theorem xi (s:Nat)(e:Edge)(d:Int)(x:ByteArray)(w:World)(q:∀j,aa w j→Calls Tryz.prog 174 #[.pointer (some ⟨s,0,none⟩),.agg #[.int .u8 e.tag,.int .u32 e.to],.int .i64 d] j fun r w'=>r=.returned (.string x)∧aa j w') :
  Calls Tryz.prog 107 #[.pointer (some ⟨s,0,none⟩),.int .u8 4,.agg #[.int .u8 e.tag,.int .u32 e.to],.int .i64 d] w fun r w'=>r=.returned (.string x)∧aa w w':=by
 have H:=Lib.hid q
 clear q
 go_enter Tryz.func107,Tryz.ntmps107
 go_wp2_with (first|(go_at_call 174;refine(H.out _ (by(exact kp))).mono ?_;rintro r w1 ⟨rfl,j⟩)|fail)
 go_ret
 exact⟨rfl,by(exact kp)⟩

theorem xc (B off p cap:Nat)(l:Int)(x:ByteArray)(w:World)(q:∀j,aa w j→Calls Tryz.prog 183 #[.slice (some ⟨B,off,none⟩) p cap,.int .i64 l] j fun r w'=>r=.returned (.string x)∧aa j w') :
  Calls Tryz.prog 114 #[.int .u8 4,.slice (some ⟨B,off,none⟩) p cap,.int .i64 l] w fun r w'=>r=.returned (.string x)∧aa w w':=by
 have H:=Lib.hid q
 clear q
 go_enter Tryz.func114,Tryz.ntmps114
 go_wp2_with (first|(go_at_call 183;refine(H.out _ (by(exact kp))).mono ?_;rintro r w1 ⟨rfl,j⟩)|fail)
 go_ret
 exact⟨rfl,by(exact kp)⟩

theorem xj (s:Nat)(e:Edge)(d:Int)(x:ByteArray)(w:World)(q:∀j,aa w j→Calls Tryz.prog 175 #[.pointer (some ⟨s,0,none⟩),.agg #[.int .u8 e.tag,.int .u32 e.to],.int .i64 d] j fun r w'=>r=.returned (.string x)∧aa j w') :
  Calls Tryz.prog 107 #[.pointer (some ⟨s,0,none⟩),.int .u8 5,.agg #[.int .u8 e.tag,.int .u32 e.to],.int .i64 d] w fun r w'=>r=.returned (.string x)∧aa w w':=by
 have H:=Lib.hid q
 clear q
 go_enter Tryz.func107,Tryz.ntmps107
 go_wp2_with (first|(go_at_call 175;refine(H.out _ (by(exact kp))).mono ?_;rintro r w1 ⟨rfl,j⟩)|fail)
 go_ret
 exact⟨rfl,by(exact kp)⟩

theorem xd (B off p cap:Nat)(l:Int)(x:ByteArray)(w:World)(q:∀j,aa w j→Calls Tryz.prog 184 #[.slice (some ⟨B,off,none⟩) p cap,.int .i64 l] j fun r w'=>r=.returned (.string x)∧aa j w') :
  Calls Tryz.prog 114 #[.int .u8 5,.slice (some ⟨B,off,none⟩) p cap,.int .i64 l] w fun r w'=>r=.returned (.string x)∧aa w w':=by
 have H:=Lib.hid q
 clear q
 go_enter Tryz.func114,Tryz.ntmps114
 go_wp2_with (first|(go_at_call 184;refine(H.out _ (by(exact kp))).mono ?_;rintro r w1 ⟨rfl,j⟩)|fail)
 go_ret
 exact⟨rfl,by(exact kp)⟩

theorem Cf {F:Nat→Prop}{w:World}{s:Nat}{M:St}(h:ag F w s M)(A:M.n≤9)(f:Int)(j:1≤f∧f≤5)(n:Nat)(z:n≤20)(e:Edge)(t:e.ok)(E:e.tag<10) :
  Calls Tryz.prog 107 #[.pointer (some ⟨s,0,none⟩),.int .u8 f,.agg #[.int .u8 e.tag,.int .u32 e.to],.int .i64 ((n:Int)-1)] w fun r w'=>r=.returned (.string (ay f M n e))∧aa w w':=by
 rcases kx j with rfl|rfl|rfl|rfl|rfl
 ·exact xg s e _ _ w (fun j q=>B5 (h.U q) A n z e j (aa.refl _) t)
 ·exact xk s e _ _ w (fun j q=>Cu (h.U q) A n z e j (aa.refl _) t)
 ·exact xh s e _ _ w (fun j q=>Cb (h.U q) A n z e j (aa.refl _) t)
 ·exact xi s e _ _ w (fun j q=>Cg (h.U q) A n z e j (aa.refl _) t)
 ·exact xj s e _ _ w (fun j q=>Cp (h.U q) A n z e j (aa.refl _) t E)

theorem Bk {B:Nat}(f:Int)(j:1≤f∧f≤5)(k:Nat)(A:k≤9)(off cap:Nat)(ts:List Bool)(l:Int)(w:World)(h:aE w B off ts)(E:ts.length=2 ^ k)(t:2 ^ k≤cap)(z:cap≤4096)(s:0≤l)(q:l+(k:Nat)<10) :
  Calls Tryz.prog 114 #[.int .u8 f,.slice (some ⟨B,off,none⟩) (2 ^ k) cap,.int .i64 l] w fun e w'=>e=.returned (.string (bj f k ts l))∧aa w w':=by
 rcases kx j with rfl|rfl|rfl|rfl|rfl
 ·exact xa B off _ cap l _ w (fun j q=>Bd k A off cap ts l j (h.U q) E t z s (by omega))
 ·exact xe B off _ cap l _ w (fun j q=>Bv k A off cap ts l j (h.U q) E t z s (by omega))
 ·exact xb B off _ cap l _ w (fun j q=>Bg (k+1) (by omega) k (by omega) A off cap ts l j (h.U q) E t z s (by omega))
 ·exact xc B off _ cap l _ w (fun j q=>Bl (k+1) (by omega) k (by omega) A off cap ts l j (h.U q) E t z s (by omega))
 ·exact xd B off _ cap l _ w (fun j q=>Bq (k+1) (by omega) k (by omega) A off cap ts l j (h.U q) E t z s (by omega))

theorem mj (n:Nat)(E:n≤5)(w:World) :
  Calls Tryz.prog 103 #[.int .i64 (n:Int)] w fun e w'=>e=.returned (.int .i64 (bz n:Int))∧w=w':=by
 have t:n=0∨n=1∨n=2∨n=3∨n=4∨n=5:=by omega
 go_enter Tryz.func103,Tryz.ntmps103
 go_wp2_with fail
 go_loopg [3,4] (n-1) (fun gk E I wr=>∃i:Nat,I=.int .i64 ((i+2:Nat):Int)∧E=.int .i64 (bz (i+1):Int)∧i≤n∧n-1-i=gk∧(i+1≤n∨i=0)∧wr=w)
 case atStart=>exact⟨0,rfl,rfl,by omega,rfl,.inr rfl,rfl⟩
 case round=>
  obtain⟨i,rfl,rfl,hi,J,A,rfl⟩:=hrel;by_cases E:i+2≤n
  ·have z:i=0∨i=1∨i=2∨i=3:=(by omega);rcases z with rfl|rfl|rfl|rfl
   all_goals
    simp only[bz]
    go_wp2_with fail
    go_roundg (gk-1)
    case rel=>exact⟨_+1,rfl,rfl,by omega,by omega,.inl (by omega),rfl⟩
    case measure=>omega
  ·have j:(bz (i+1):Int)=(bz n:Int):=by
    rcases A with q|q;·rw[show i+1=n by omega]
    ·subst q;have:n=0∨n=1:=(by omega);rcases this with rfl|rfl<;>rfl
   rw[j];clear t j;obtain⟨F,hF⟩:∃F:Nat,F=bz n:=⟨_,rfl⟩;have s:=Lib.hid hF;rw[←hF];clear hF;go_wp2_with fail
   go_ret
   exact⟨by rw[←s.out];rfl,rfl⟩

structure jj (w0 wr:World)(LB base n c r R:Nat)(left pr:List Int)(v:Value):Prop where
 len:left.length=c
 cn:c≤n
 hP:pr.length=n-c
 lt:r<bz c
 own:gZ wr LB left
 row:wr.ownsRow base 3 1 v (n-c) (pr.map (Value.int .i64))
 all:pr++gT c left r=dF n R
 U:aa w0 wr
 lb:LB<base∧base≤wr.heap.size∧w0.heap.size≤LB

theorem jj.pos {w0 wr:World}{j q n c r R:Nat}{left s:List Int}{v:Value}(h:jj w0 wr j q n (c+1) r R left s v):r / bz c<left.length:=by
 rw[h.len];have:=h.lt;have e:bz (c+1)=(c+1)*bz c:=rfl;rw[e]at this;exact Nat.div_lt_of_lt_mul (by rw[Nat.mul_comm];exact this)

theorem yt {w:World}{lo j:Nat}{e:TypeId}{size:Nat}{v:Value}{n:Nat}{xs:List Value}(t:j≤lo)(h:w.ownsRow lo e size v n xs):w.ownsRow j e size v n xs:=by
 refine⟨h.1,?_⟩;rcases h.2 with z|⟨g,cap,j,q,s,rest⟩;·exact .inl z
 ·exact .inr ⟨g,cap,j,q,Nat.le_trans t s,rest⟩

theorem yi {c r:Nat}{left:List Int}(h:r / bz c<left.length):∃x,left[r / bz c]?=some x∧gT (c+1) left r=x::gT c (left.eraseIdx (r / bz c)) (r%bz c):=by
 refine⟨left[r / bz c],List.getElem?_eq_getElem h,?_⟩;show left.getD (r / bz c) 0::_=_;rw[List.getD_eq_getElem?_getD,List.getElem?_eq_getElem h];rfl

theorem yI (n R:Nat)(a8:n≤5)(cy:R<bz n)(w:World) :
  Calls Tryz.prog 51 #[.int .i64 (n:Int),.int .i64 (R:Int)] w fun e w'=>∃a cap,e=.returned (.tuple #[.slice a n cap,.bool true])∧w'.ownsRow w.heap.size 3 1 (.slice a n cap) n ((dF n R).map (Value.int .i64))∧aa w w':=by
 obtain⟨b9,hi,b6,b7,b8⟩:=info_parts ij
 have co:=Lib.hid (fun z:World=>qE n (by omega) z)
 have bg:=Lib.hid (fun z:World=>mj n a8 z)
 obtain⟨Fn,a4⟩:∃F,F=bz n:=⟨_,rfl⟩
 have dj:¬(Fn:Int)≤(R:Int):=by omega
 have cD:R<Fn:=by omega
 rw[←a4]at bg
 have ch:=Lib.hid a4
 clear a4 cy
 go_enter Tryz.func51,Tryz.ntmps51
 go_wp2_with (first
  |(go_at_call 102;refine(co.out _).mono ?_;rintro e w1 ⟨rfl,a5,a7⟩)
  |(go_at_call 103;refine(bg.out _).mono ?_;rintro e da ⟨rfl,rfl⟩)
  |(at_make;refine wpList_make_own _ rfl _ _ 22 rfl w1.heap.size 3 b9 (.int .i64 0) 1 Tryz.underlying22 hi b6 b7 .i64 .i64 (n:Int) n rfl rfl rfl (by rw[b8];omega) (by unfold maxLen;omega) (Nat.le_refl _) ?_;intro cb t s)
  |fail)
 have aw:aa w1 cb:=⟨s.os,s.tape,s.output,s.size,fun i hi=>s.block i hi (by simp)⟩
 have b1:=a5.lt
 have a1:=a7.size
 have c9:=aw.size
 have Z:=a5.U aw
 obtain⟨E,bt⟩:∃a3,a3=w.heap.size:=⟨_,rfl⟩
 obtain⟨I,bw⟩:∃a3,a3=w1.heap.size:=⟨_,rfl⟩
 rw[←bt]at Z b1 a1 ⊢
 rw[←bw]at t b1 c9 a1 ⊢
 have b5:jj w cb E I n n R R (du n) [] (.slice (some ⟨I,0,none⟩) 0 n):=⟨iV n,Nat.le_refl _,by simp,by rw[←ch.out];exact cD,fun i x S=>⟨Z.cell S,Z.frozen i⟩,by rw[Nat.sub_self];exact t,rfl,a7.trans aw,by omega,by omega,by omega⟩
 have bq:=Lib.hid b5
 clear b5 Z a5 t s aw a7 bt bw
 go_wp2_with fail
 go_loopg [1,6,8,9] n (fun gk a1 Z aw a3 wr=>∃(r:Nat) (left W:List Int),a3=.int .i64 ((gk:Int)-1)∧a1=.int .i64 (r:Int)∧Z=.slice (some ⟨E,0,none⟩) gk n∧jj w wr E I n gk r R left W aw)
 case atStart=>exact⟨R,du n,[],rfl,rfl,rfl,bq.out⟩
 case round=>
  clear bq;obtain⟨r,left,W,rfl,rfl,rfl,q⟩:=hrel;obtain⟨T,U,rfl,c1⟩:=eO q.row;have c0:=q.cn;by_cases c5:gk=0
  ·subst c5
   have b2:wr.ownsRow I 3 1 (.slice T n U) n ((dF n R).map (Value.int .i64))∧aa w wr:=by
    have X:=q.row;have Y:=q.all;rw[show gT 0 left r=[]from rfl,List.append_nil]at Y;rw[Y,Nat.sub_zero]at X;exact⟨X,q.U⟩
   have bn:=Lib.hid b2;have Z:=q.lb;clear q b2;rw[Nat.sub_zero];go_wp2_with fail
   go_ret2
   have c4:=bn.out.1;exact⟨T,U,rfl,yt (by omega) c4,bn.out.2⟩
  ·obtain⟨c,rfl⟩:∃c,gk=c+1:=⟨gk-1,by omega⟩;have L:=q.pos;obtain⟨x,S,b0⟩:=yi L;have cx:=ku c;have be:=Lib.hid (fun z:World=>mj c (by omega) z);obtain⟨br,bs⟩:=q.own _ _ S;have A:=Lib.hid q;have Z:=Lib.hid S;have cj:=Lib.hid b0;have c3:=q.lt
   have c2:bz (c+1)≤120:=by
    have:c=0∨c=1∨c=2∨c=3∨c=4:=(by omega);rcases this with rfl|rfl|rfl|rfl|rfl<;>decide
   have Z:r<120:=(by omega);rw[q.len]at L;clear q S b0 c3 c2;obtain⟨F,hF⟩:∃F,F=bz c:=⟨_,rfl⟩;have cg:=Lib.hid hF;rw[←hF]at L cx be br bs;obtain⟨K,ad⟩:∃K,K=r / F:=⟨_,rfl⟩;obtain⟨m,ab⟩:∃m,m=r%F:=⟨_,rfl⟩;rw[←ad]at L br bs;have q:(r:Int) / (F:Int)=(K:Int):=(by rw[ad];exact_mod_cast rfl);have q:(r:Int)%(F:Int)=(m:Int):=(by rw[ab];exact_mod_cast rfl);have q:m≤120:=(by rw[ab];exact Nat.le_trans (Nat.mod_le _ _) (by omega));have cn:=Lib.hid (⟨ad,ab⟩:K=r / F∧m=r%F);clear hF ad ab;rw[show((c+1:Nat):Int)-1=(c:Int) by omega];obtain⟨d,a6⟩:∃d,d=n-(c+1):=⟨_,rfl⟩;have bb:=A.out.row;rw[←a6]at bb c1 ⊢;have q:d+(c+1)=n:=(by omega);have bp:=Lib.hid bb;have ce:=Lib.hid a6;have b4:=A.out.own;have cl:=Lib.hid b4;have N:=A.out.len;have bi:=Lib.hid N;obtain⟨c6,q,ca⟩:=A.out.lb;have q:=A.out.U.size;have c7:d+1≤maxLen:=(by unfold maxLen;omega);have c8:(d+1)*8≤140737488355328:=(by omega);have q:=fun(z:World) (X:gZ z E left) (Y:E<z.heap.size)=>uT E n K left z X Y (by rw[N];exact c0) (by omega) (by rw[N];exact L);rw[N,Nat.add_sub_cancel]at q;have cf:=Lib.hid q;clear bb a6 b4 N q
   go_wp2_with (first
    |(go_at_call 103;refine(be.out _).mono ?_;rintro e da ⟨rfl,rfl⟩)
    |(at_builtin;refine wpList_append_own _ rfl _ _ 22 rfl I 3 b9 (.int .i64 0) 1 8 Tryz.underlying22 hi b6 b7 b8 rfl (by decide) (.slice T d U) d (W.map (Value.int .i64)) rfl (bp.out.alloc _) ⟨wr.heap.size,0,none⟩ 1 1 [.int .i64 x] rfl rfl (ez _ _ _ _ rfl) (by simp[Value.oneCell']) (by exact c7) (by exact c8) (by simp;omega) ?_;intro c' cd t s _)
    |fail)
   have a':∀k,Value.ownBlock (.slice T d U)=some k→I≤k:=fun k j=>by
    rcases bp.out.2 with⟨J,_⟩|⟨cv,cp,cq,J,cS,_⟩
    ·rw[J]at j;simp[Value.ownBlock]at j
    ·rw[J]at j;simp[Value.ownBlock]at j;omega
   have q:ae (fun k=>Value.ownBlock (.slice T d U)=some k) wr cd:=(((aa.refl wr).alloc _).av _).a' ⟨s.os,s.tape,s.output,s.size,fun k j a8=>s.block k j (fun e=>a8 e.symm)⟩;have O:aa w cd:=A.out.U.new q (fun k j=>by have:=a' k j;omega);have z:=q.size;have z:=cl.out.a5 q (by omega) (fun j=>by have:=a' _ j;omega);have a2:=Lib.hid (⟨t,O,z⟩:_∧_∧_);clear t O z q a' s;refine(cf.out _ a2.out.2.2 (by omega)).mono ?_;rintro e db ⟨rfl,b3,av⟩;obtain⟨t,O,-⟩:=a2.out
   have bx:jj w db E I n c m R (left.eraseIdx K) (W++[x]) c':=by
    have am:=cn.out;rw[cg.out]at am;have bv:=A.out.all;rw[cj.out]at bv;refine⟨?_,by omega,?_,?_,b3,?_,?_,O.new av (fun k j=>by subst j;exact ca),⟨c6,?_,ca⟩⟩;·rw[List.length_eraseIdx,if_pos (by rw[bi.out];exact L),bi.out,Nat.add_sub_cancel]
    ·rw[List.length_append,A.out.hP,←ce.out];show d+1=n-c;omega
    ·rw[am.2];exact Nat.mod_lt _ (ku c)
    ·rw[show n-c=d+1 by omega,List.map_append]
     exact av.br (fun k j e=>by
      rcases t.2 with⟨J,_⟩|⟨cv,cp,cq,J,cS,_⟩
      ·rw[J]at j;simp[Value.ownBlock]at j
      ·rw[J]at j;simp[Value.ownBlock]at j;omega) t
    ·rw[List.append_assoc,←am.1,←am.2]at *;exact bv
    ·have:=av.size;omega
   have ci:=Lib.hid bx;clear bx b3 av t O a2;go_wp2_with fail
   go_roundg c
   case rel=>exact⟨m,left.eraseIdx K,W++[x],by simp,by simp,rfl,ci.out⟩
   case measure=>omega

theorem yJ (n:Nat)(A:n≤5)(w:World) :
  Calls Tryz.prog 51 #[.int .i64 (n:Int),.int .i64 (bz n:Int)] w fun e w'=>e=.returned (.tuple #[.slice none 0 0,.bool false])∧aa w w':=by
 have t:=Lib.hid (fun j:World=>qE n (by omega) j)
 have q:=Lib.hid (fun j:World=>mj n A j)
 obtain⟨Fn,s⟩:∃F,F=bz n:=⟨_,rfl⟩
 rw[←s]at q ⊢
 clear s
 go_enter Tryz.func51,Tryz.ntmps51
 go_wp2_with (first
  |(go_at_call 102;refine(t.out _).mono ?_;rintro e w1 ⟨rfl,j,z⟩)
  |(go_at_call 103;refine(q.out _).mono ?_;rintro e E ⟨rfl,rfl⟩)
  |fail)
 go_ret2
 exact⟨rfl,z⟩

end Go.Proofs.YtafkamlhimkbmaaGreat
