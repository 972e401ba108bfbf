/-
  Plainly: what an edge of form 4 that was made from below unfolds to is its table's term.
-/
import Derived.Test.YtafkamlhimkbmaaGreatPKB
import Derived.Test.YtafkamlhimkbmaaGreatPSSweep
namespace Go.Proofs.YtafkamlhimkbmaaGreat
set_option maxRecDepth 1000000
set_option maxHeartbeats 8000000
set_option linter.unusedSimpArgs false
set_option linter.unusedVariables false
open Go.RowKit
theorem mu {M:St}{l:Int}{lo hi e:Edge}(h:dJ 4 M l lo hi e) :
  (hi.to=0∧e=lo)∨(hi.to≠0∧∃r,look M.cs e.to=some r∧r.I=l ∧
   ((lo=hi∧∃x,look M.cs lo.to=some x∧x.I=l+1∧r.J=x.J∧r.lo=x.lo∧r.hi=x.hi) ∨
    ((lo=hi→∀x,look M.cs lo.to=some x→x.I≠l+1)∧r.J=l∧r.lo=lo∧r.hi=hi))):=by
 rcases h.up with u|⟨r,u,E,_⟩
 ·rw[il]at u;unfold az bm at u;split at u;·cases u
  ·split at u;·cases u
   ·split at u
    ·rename_i t;cases u;exact .inl ⟨t,rfl⟩
    ·split at u;·cases u
     ·split at u;·split at u<;>cases u
      ·cases u
 ·rw[il]at u;unfold az bm at u;split at u;·cases u
  ·split at u;·cases u
   ·split at u;·cases u
    ·rename_i t;refine .inr ⟨t,r,E,?_⟩;split at u
     ·rename_i j;cases u;exact⟨rfl,.inr ⟨fun _ x z=>(by rw[j]at z;cases z),rfl,rfl,rfl⟩⟩
     ·rename_i x j;split at u
      ·rename_i q;split at u
       ·rename_i s;cases u;exact⟨rfl,.inl ⟨q,x,j,s,rfl,rfl,rfl⟩⟩
       ·rename_i s;cases u;exact⟨rfl,.inr ⟨fun _ y A=>(by rw[j]at A;cases A;exact s),rfl,rfl,rfl⟩⟩
      ·rename_i q;cases u;exact⟨rfl,.inr ⟨fun B=>absurd B q,rfl,rfl,rfl⟩⟩
theorem ji {cs:List (Option Rec)}{a:Int}{r:Rec}(h:look cs a=some r):¬a<2:=fun j=>by rw[fh j]at h;cases h
theorem lQ {M:St}:∀(k:Nat) (ts:List Bool) (l:Int) (e:Edge),aJ 4 M k ts l e→(e.to=0↔bE ts=true):=by
 intro k;induction k with
 |zero=>
  intro ts l e h;obtain⟨b,rfl,rfl⟩:=h;cases b;·exact⟨fun _=>rfl,fun _=>rfl⟩
  ·exact⟨fun j=>(by cases j),fun j=>(by cases j)⟩
 |succ k s=>
  intro ts l e h;obtain⟨_,lo,hi,t,z,A⟩:=h;have a:=s _ _ _ t;have b:=s _ _ _ z;rw[mC (2 ^ k),bT,←a,←b];rcases mu A with⟨q,rfl⟩|⟨q,r,s,_⟩
  ·exact⟨fun j=>⟨j,q⟩,fun j=>j.1⟩
  ·have:=ji s;exact⟨fun j=>absurd j (by omega),fun j=>absurd j.2 q⟩
theorem tG {M:St}{k:Nat}{ts:List Bool}{l:Int}{e:Edge}(h:aJ 4 M (k+1) ts l e)(z:bE (ts.drop (2 ^ k))=true):aJ 4 M k (ts.take (2 ^ k)) (l+1) e:=by
 obtain⟨_,lo,hi,q,s,t⟩:=h;have b:=(lQ _ _ _ _ s).2 z;rcases mu t with⟨j,rfl⟩|⟨j,_⟩
 ·exact q
 ·exact absurd b j
theorem CB {M:St}(al:M.wf):∀(k:Nat) (ts:List Bool) (l:Int) (e:Edge),aJ 4 M (k+1) ts l e→l+(k+1:Nat)=M.n→bE (ts.drop (2 ^ k))=false →
  ∃r,look M.cs e.to=some r∧r.I=l∧∀c z A,dM k (ts.take (2 ^ k)) (ts.drop (2 ^ k))=(c,z,A)→r.J=l+(k-c:Nat)∧aJ 4 M c z (r.J+1) r.lo∧aJ 4 M c A (r.J+1) r.hi:=by
 intro k
 induction k with
 |zero=>
  intro ts l e h Y O;obtain⟨_,lo,hi,q,t,W⟩:=h;rcases mu W with⟨S,_⟩|⟨S,r,Z,ad,N⟩
  ·rw[(lQ _ _ _ _ t).1 S]at O;cases O
  ·refine⟨r,Z,ad,fun c z A U=>?_⟩;have s:(0,ts.take (2 ^ 0),ts.drop (2 ^ 0))=(c,z,A):=U;cases s;rcases N with⟨_,x,L,_⟩|⟨_,B,E,I⟩
   ·obtain⟨b,_,rfl⟩:=q;exfalso;have:=ji L;cases b;·exact this (show(0:Int)<2 by decide)
    ·exact this (show(1:Int)<2 by decide)
   ·rw[B,E,I];exact⟨by simp,q,t⟩
 |succ k a8=>
  intro ts l e h Y O;have bd:=h.length;obtain⟨_,lo,hi,q,t,W⟩:=h;have a3:l+1+(k+1:Nat)=M.n:=by push_cast at Y ⊢;omega
  rcases mu W with⟨S,_⟩|⟨S,r,Z,ad,N⟩
  ·rw[(lQ _ _ _ _ t).1 S]at O;cases O
  ·refine⟨r,Z,ad,fun c z A U=>?_⟩;obtain⟨j,av⟩:∃j,j=ts.take (2 ^ (k+1)):=⟨_,rfl⟩;obtain⟨J,aw⟩:∃J,J=ts.drop (2 ^ (k+1)):=⟨_,rfl⟩;rw[←av,←aw]at U;rw[←av]at q;rw[←aw]at t;have s:(if bN j J&&!bE (j.drop (2 ^ k))then dM k (j.take (2 ^ k)) (j.drop (2 ^ k))else(k+1,j,J))=(c,z,A):=U;by_cases ab:lo=hi
   ·subst ab;have X:j=J:=aJ.inj al _ _ _ _ _ q t;subst X;rw[gi.2 rfl,Bool.true_and]at s;cases T:bE (j.drop (2 ^ k))with
    |true=>
     rw[T]at s;cases s;have a4:=tG q T;rcases N with⟨_,x,L,a5,_⟩|⟨_,B,E,I⟩
     ·have:=a4.I al (by decide) (by push_cast at Y ⊢;omega) L;omega
     ·rw[B,E,I];exact⟨by simp,q,q⟩
    |false=>
     rw[T]at s;obtain⟨y,a0,a7,a6⟩:=a8 _ _ _ q a3 T;obtain⟨O,a',bb⟩:=a6 c z A s
     have O:c≤k:=by
      have:=qA k (j.take (2 ^ k)) (j.drop (2 ^ k));have O:(dM k (j.take (2 ^ k)) (j.drop (2 ^ k))).1=c:=(by rw[show dM k (j.take (2 ^ k)) (j.drop (2 ^ k))=(c,z,A)from s]);omega
     rcases N with⟨_,x,L,a5,B,E,I⟩|⟨am,_⟩
     ·rw[a0]at L;cases L;rw[B,E,I];exact⟨by omega,a',bb⟩
     ·exact absurd a7 (am rfl y a0)
   ·have X:bN j J=false:=kG.2 (fun a1=>ab (by subst a1;exact aJ.da al _ _ _ _ _ q t));rw[X]at s;cases s;rcases N with⟨am,_⟩|⟨_,B,E,I⟩
    ·exact absurd am ab
    ·rw[B,E,I];exact⟨by simp,q,t⟩
theorem kY:bQ 0=⟨#[48]⟩:=by decide
theorem ma:bQ 1=⟨#[49]⟩:=by decide
theorem iR {f:Int}{M:St}{n:Nat}{e:Edge}(j:f≠5)(h:e.to<2):bR f M (n+1) e=bQ e.to:=by
 show(if f=5 then _ else if e.to<2 then _ else _)=_;rw[ag j,ah h]
theorem uk {f:Int}{M:St}{n:Nat}{e:Edge}{r:Rec}(j:f=3∨f=4)(h:look M.cs e.to=some r) :
  bR f M (n+1) e=⟨#[40]⟩++bQ r.I++⟨#[58]⟩++bQ r.J++⟨#[32]⟩++bR f M n r.lo++⟨#[32]⟩++bR f M n r.hi++⟨#[41]⟩:=by
 show(if f=5 then _ else if e.to<2 then _ else if f=3∨f=4 then _ else _)=_
 rw[ag (by omega),ag (ji h),ah j,h]
 rfl
theorem DV {M:St}(T:M.wf):∀(k:Nat) (ts:List Bool) (l:Int) (e:Edge),aJ 4 M k ts l e→l+(k:Nat)=M.n→∀m n,k≤m→k≤n→bR 4 M (m+1) e=iN (n+1) k ts l:=by
 intro k;induction k using Nat.strongRecOn with
 |ind k t=>
  intro ts l e h j m n N N;cases k with
  |zero=>
   obtain⟨b,rfl,rfl⟩:=h;cases b;·exact(iR (by decide) (show(0:Int)<2 by decide)).trans kY
   ·exact(iR (by decide) (show(1:Int)<2 by decide)).trans ma
  |succ k=>
   have s:iN (n+1) (k+1) ts l=(if bE ts then⟨#[48]⟩else if bE (ts.drop (2 ^ k))then iN n k (ts.take (2 ^ k)) (l+1)
    else⟨#[40]⟩++bQ l++⟨#[58]⟩++bQ (l+(k-(dM k (ts.take (2 ^ k)) (ts.drop (2 ^ k))).1:Nat))++⟨#[32]⟩++iN n (dM k (ts.take (2 ^ k)) (ts.drop (2 ^ k))).1 (dM k (ts.take (2 ^ k)) (ts.drop (2 ^ k))).2.1 (l+(k-(dM k (ts.take (2 ^ k)) (ts.drop (2 ^ k))).1:Nat)+1)++⟨#[32]⟩++iN n (dM k (ts.take (2 ^ k)) (ts.drop (2 ^ k))).1 (dM k (ts.take (2 ^ k)) (ts.drop (2 ^ k))).2.2 (l+(k-(dM k (ts.take (2 ^ k)) (ts.drop (2 ^ k))).1:Nat)+1)++⟨#[41]⟩):=rfl
   rw[s];by_cases s:e.to=0
   ·rw[ah ((lQ _ _ _ _ h).1 s),iR (by decide) (by omega),s];exact kY
   ·rw[ag (fun N=>s ((lQ _ _ _ _ h).2 N))];obtain⟨n,rfl⟩:∃s,n=s+1:=⟨n-1,by omega⟩;cases E:bE (ts.drop (2 ^ k))with
    |true=>
     rw[ah rfl];exact t k (by omega) _ _ _ (tG h E) (by push_cast at j ⊢;omega) m n (by omega) (by omega)
    |false=>
     rw[ag (by decide)];obtain⟨r,O,S,L⟩:=CB T k ts l e h j E;obtain⟨c,z,A,q⟩:∃c z A,dM k (ts.take (2 ^ k)) (ts.drop (2 ^ k))=(c,z,A):=⟨_,_,_,rfl⟩;obtain⟨B,I,J⟩:=L c z A q
     have s:c≤k:=by
      have:=qA k (ts.take (2 ^ k)) (ts.drop (2 ^ k));rw[q]at this;exact this
     obtain⟨m,rfl⟩:∃s,m=s+1:=⟨m-1,by omega⟩;rw[q,uk (.inr rfl) O];have q:r.J+1+(c:Nat)=M.n:=(by rw[B];push_cast at j ⊢;omega);rw[t c (by omega) _ _ _ I q m n (by omega) (by omega),t c (by omega) _ _ _ J q m n (by omega) (by omega),S,B]
theorem um {f:Int}{M:St}{n:Nat}{e:Edge}{r:Rec}(j:f=1∨f=2)(h:look M.cs e.to=some r) :
  bR f M (n+1) e=⟨#[40]⟩++bQ r.I++⟨#[32]⟩++bR f M n r.lo++⟨#[32]⟩++bR f M n r.hi++⟨#[41]⟩:=by
 show(if f=5 then _ else if e.to<2 then _ else if f=3∨f=4 then _ else _)=_
 rw[ag (by omega),ag (ji h),ag (by omega),h]
 rfl
theorem zs {M:St}{l:Int}{lo hi e:Edge}(h:dJ 1 M l lo hi e) :
  (lo=hi∧e=lo)∨(lo≠hi∧∃r,look M.cs e.to=some r∧r.I=l∧r.lo=lo∧r.hi=hi):=by
 rcases h.up with u|⟨r,u,q,_⟩
 ·rw[gE]at u;unfold az cW at u;split at u;·cases u
  ·split at u;·cases u
   ·split at u
    ·rename_i j;cases u;exact .inl ⟨j,rfl⟩
    ·cases u
 ·rw[gE]at u;unfold az cW at u;split at u;·cases u
  ·split at u;·cases u
   ·split at u;·cases u
    ·rename_i j;cases u;exact .inr ⟨j,_,q,rfl,rfl,rfl⟩
theorem rT {M:St}{l:Int}{lo hi e:Edge}(h:dJ 2 M l lo hi e) :
  (hi.to=0∧e=lo)∨(hi.to≠0∧∃r,look M.cs e.to=some r∧r.I=l∧r.lo=lo∧r.hi=hi):=by
 rcases h.up with u|⟨r,u,q,_⟩
 ·rw[gF]at u;unfold az dc at u;split at u;·cases u
  ·split at u;·cases u
   ·split at u
    ·rename_i j;cases u;exact .inl ⟨j,rfl⟩
    ·cases u
 ·rw[gF]at u;unfold az dc at u;split at u;·cases u
  ·split at u;·cases u
   ·split at u;·cases u
    ·rename_i j;cases u;exact .inr ⟨j,_,q,rfl,rfl,rfl⟩
theorem DS {M:St}(t:M.wf):∀(k:Nat) (ts:List Bool) (l:Int) (e:Edge),aJ 1 M k ts l e→∀m,k≤m→bR 1 M (m+1) e=iL k ts l:=by
 intro k;induction k with
 |zero=>
  intro ts l e h m A;obtain⟨b,rfl,rfl⟩:=h;cases b;·exact(iR (by decide) (show(0:Int)<2 by decide)).trans kY
  ·exact(iR (by decide) (show(1:Int)<2 by decide)).trans ma
 |succ k s=>
  intro ts l e h m A;have E:iL (k+1) ts l=(if bN (ts.take (2 ^ k)) (ts.drop (2 ^ k))then iL k (ts.take (2 ^ k)) (l+1)else⟨#[40]⟩++bQ l++⟨#[32]⟩++iL k (ts.take (2 ^ k)) (l+1)++⟨#[32]⟩++iL k (ts.drop (2 ^ k)) (l+1)++⟨#[41]⟩):=rfl;rw[E];obtain⟨_,lo,hi,j,q,z⟩:=h;rcases zs z with⟨rfl,rfl⟩|⟨E,r,B,I,J,L⟩
  ·rw[ah (gi.2 (aJ.inj t _ _ _ _ _ j q))];exact s _ _ _ j m (by omega)
  ·have A:bN (ts.take (2 ^ k)) (ts.drop (2 ^ k))=false:=kG.2 (fun z=>E (by rw[z]at j;exact aJ.da t _ _ _ _ _ j q));rw[A,ag (by decide)];obtain⟨m,rfl⟩:∃t,m=t+1:=⟨m-1,by omega⟩;rw[um (.inl rfl) B,I,J,L,s _ _ _ j m (by omega),s _ _ _ q m (by omega)]
theorem uy {M:St}:∀(k:Nat) (ts:List Bool) (l:Int) (e:Edge),aJ 2 M k ts l e→(e.to=0↔bE ts=true):=by
 intro k;induction k with
 |zero=>
  intro ts l e h;obtain⟨b,rfl,rfl⟩:=h;cases b;·exact⟨fun _=>rfl,fun _=>rfl⟩
  ·exact⟨fun j=>(by cases j),fun j=>(by cases j)⟩
 |succ k s=>
  intro ts l e h;obtain⟨_,lo,hi,t,z,A⟩:=h;have a:=s _ _ _ t;have b:=s _ _ _ z;rw[mC (2 ^ k),bT,←a,←b];rcases rT A with⟨q,rfl⟩|⟨q,r,s,_⟩
  ·exact⟨fun j=>⟨j,q⟩,fun j=>j.1⟩
  ·have:=ji s;exact⟨fun j=>absurd j (by omega),fun j=>absurd j.2 q⟩
theorem DT {M:St}:∀(k:Nat) (ts:List Bool) (l:Int) (e:Edge),aJ 2 M k ts l e→∀m,k≤m→bR 2 M (m+1) e=iO k ts l:=by
 intro k;induction k with
 |zero=>
  intro ts l e h m A;obtain⟨b,rfl,rfl⟩:=h;cases b;·exact(iR (by decide) (show(0:Int)<2 by decide)).trans kY
  ·exact(iR (by decide) (show(1:Int)<2 by decide)).trans ma
 |succ k q=>
  intro ts l e h m A;have E:iO (k+1) ts l=(if bE (ts.drop (2 ^ k))then iO k (ts.take (2 ^ k)) (l+1)else⟨#[40]⟩++bQ l++⟨#[32]⟩++iO k (ts.take (2 ^ k)) (l+1)++⟨#[32]⟩++iO k (ts.drop (2 ^ k)) (l+1)++⟨#[41]⟩):=rfl;rw[E];obtain⟨_,lo,hi,t,j,z⟩:=h;rcases rT z with⟨s,rfl⟩|⟨s,r,B,I,J,L⟩
  ·rw[ah ((uy _ _ _ _ j).1 s)];exact q _ _ _ t m (by omega)
  ·rw[ag (fun z=>s ((uy _ _ _ _ j).2 z))];obtain⟨m,rfl⟩:∃s,m=s+1:=⟨m-1,by omega⟩;rw[um (.inr rfl) B,I,J,L,q _ _ _ t m (by omega),q _ _ _ j m (by omega)]
theorem oP {M:St}{l:Int}{lo hi e:Edge}(h:dJ 3 M l lo hi e) :
  (lo=hi∧e=lo)∨(lo≠hi∧∃r,look M.cs e.to=some r∧r.I=l ∧
   ((∃x,look M.cs lo.to=some x∧x.I=l+1∧x.hi=hi∧r.J=x.J∧r.lo=x.lo∧r.hi=hi) ∨
    ((∀x,look M.cs lo.to=some x→x.I=l+1→x.hi≠hi)∧r.J=l∧r.lo=lo∧r.hi=hi))):=by
 rcases h.up with u|⟨r,u,B,_⟩
 ·rw[ik]at u;unfold az bk at u;split at u;·cases u
  ·split at u;·cases u
   ·split at u
    ·rename_i z;cases u;exact .inl ⟨z,rfl⟩
    ·split at u;·cases u
     ·split at u;·split at u<;>cases u
      ·cases u
 ·rw[ik]at u;unfold az bk at u;split at u;·cases u
  ·split at u;·cases u
   ·split at u;·cases u
    ·rename_i z;refine .inr ⟨z,r,B,?_⟩;split at u
     ·rename_i j;cases u;exact⟨rfl,.inr ⟨fun x A=>(by rw[j]at A;cases A),rfl,rfl,rfl⟩⟩
     ·rename_i x j;split at u
      ·rename_i t;split at u
       ·rename_i s;cases u;exact⟨rfl,.inl ⟨x,j,t,s,rfl,rfl,rfl⟩⟩
       ·rename_i s;cases u;exact⟨rfl,.inr ⟨fun y q _=>(by rw[j]at q;cases q;exact s),rfl,rfl,rfl⟩⟩
      ·rename_i t;cases u;exact⟨rfl,.inr ⟨fun y q E=>(by rw[j]at q;cases q;exact absurd E t),rfl,rfl,rfl⟩⟩
theorem lJ {M:St}(z:M.wf){k:Nat}{ts:List Bool}{l:Int}{e:Edge}(h:aJ 3 M (k+1) ts l e)(t:ts.take (2 ^ k)=ts.drop (2 ^ k)):aJ 3 M k (ts.take (2 ^ k)) (l+1) e:=by
 obtain⟨_,lo,hi,j,q,s⟩:=h;have:lo=hi:=aJ.da z _ _ _ _ _ j (t ▸ q);rcases oP s with⟨_,rfl⟩|⟨q,_⟩
 ·exact j
 ·exact absurd this q
theorem qH {M:St}(z:M.wf):∀(k:Nat) (lo hi:List Bool) (l:Int) (e:Edge) (c:Nat) (s q:List Bool),dt k lo hi=(c,s,q)→aJ 3 M k hi l e→aJ 3 M c q (l+(k-c:Nat)) e:=by
 intro k;induction k with
 |zero=>
  intro lo hi l e c s q t h;have j:(0,lo,hi)=(c,s,q):=t;cases j;simpa using h
 |succ k A=>
  intro lo hi l e c s q t h;have j:(if !bN (lo.take (2 ^ k)) (lo.drop (2 ^ k))&&bN (hi.take (2 ^ k)) (hi.drop (2 ^ k))&&bN (hi.take (2 ^ k)) (lo.drop (2 ^ k))then dt k (lo.take (2 ^ k)) (lo.drop (2 ^ k))else(k+1,lo,hi))=(c,s,q):=t;split at j
  ·rename_i q;rw[bT,bT]at q;have s:=gi.1 q.1.2;have t:=gi.1 q.2;have q:=lJ z h s;rw[t]at q;have s:=A _ _ _ _ _ _ _ j q
   have q:c≤k:=by
    have:=l0 k (lo.take (2 ^ k)) (lo.drop (2 ^ k));rw[j]at this;exact this
   rwa[show l+1+((k-c:Nat):Int)=l+((k+1-c:Nat):Int) by omega]at s
  ·cases j;simpa using h
theorem CA {M:St}(s:M.wf):∀(k:Nat) (ts:List Bool) (l:Int) (e:Edge),aJ 3 M (k+1) ts l e→l+(k+1:Nat)=M.n→ts.take (2 ^ k)≠ts.drop (2 ^ k) →
  ∃r,look M.cs e.to=some r∧r.I=l∧∀c E I,dt k (ts.take (2 ^ k)) (ts.drop (2 ^ k))=(c,E,I)→r.J=l+(k-c:Nat)∧aJ 3 M c E (r.J+1) r.lo∧aJ 3 M c I (r.J+1) r.hi:=by
 intro k
 induction k with
 |zero=>
  intro ts l e h al am;obtain⟨_,lo,hi,t,z,ab⟩:=h;rcases oP ab with⟨rfl,_⟩|⟨bw,r,aw,a0,T⟩
  ·exact absurd (aJ.inj s _ _ _ _ _ t z) am
  ·refine⟨r,aw,a0,fun c E I W=>?_⟩;have A:(0,ts.take (2 ^ 0),ts.drop (2 ^ 0))=(c,E,I):=W;cases A;rcases T with⟨x,B,_⟩|⟨_,J,L,N⟩
   ·obtain⟨b,_,rfl⟩:=t;exfalso;have:=ji B;cases b;·exact this (show(0:Int)<2 by decide)
    ·exact this (show(1:Int)<2 by decide)
   ·rw[J,L,N];exact⟨by simp,t,z⟩
 |succ k bg=>
  intro ts l e h al am;obtain⟨_,lo,hi,t,z,ab⟩:=h;have a':l+1+(k+1:Nat)=M.n:=by push_cast at al ⊢;omega
  have bb:l+1+1+(k:Nat)=M.n:=by push_cast at al ⊢;omega
  rcases oP ab with⟨rfl,_⟩|⟨bw,r,aw,a0,T⟩
  ·exact absurd (aJ.inj s _ _ _ _ _ t z) am
  ·refine⟨r,aw,a0,fun c E I W=>?_⟩;obtain⟨j,a7⟩:∃j,j=ts.take (2 ^ (k+1)):=⟨_,rfl⟩;obtain⟨q,a8⟩:∃q,q=ts.drop (2 ^ (k+1)):=⟨_,rfl⟩;rw[←a7,←a8]at W;rw[←a7]at t;rw[←a8]at z;have A:(if !bN (j.take (2 ^ k)) (j.drop (2 ^ k))&&bN (q.take (2 ^ k)) (q.drop (2 ^ k))&&bN (q.take (2 ^ k)) (j.drop (2 ^ k))then dt k (j.take (2 ^ k)) (j.drop (2 ^ k))else(k+1,j,q))=(c,E,I):=W;by_cases X:j.take (2 ^ k)=j.drop (2 ^ k)
   ·rw[gi.2 X]at A;cases A;have bs:=lJ s t X;rcases T with⟨x,B,be,_⟩|⟨_,J,L,N⟩
    ·have:=bs.I s (by decide) bb B;omega
    ·rw[J,L,N];exact⟨by simp,t,z⟩
   ·obtain⟨y,a1,bt,bf⟩:=bg _ _ _ t a' X;rw[kG.2 X]at A;by_cases S:q.take (2 ^ k)=q.drop (2 ^ k)∧q.take (2 ^ k)=j.drop (2 ^ k)
    ·rw[gi.2 S.1,gi.2 S.2]at A;have U:dt k (j.take (2 ^ k)) (j.drop (2 ^ k))=(c,E,I):=A;obtain⟨a5,bi,a6⟩:=bf c E I U
     have bp:c≤k:=by
      have:=l0 k (j.take (2 ^ k)) (j.drop (2 ^ k));rw[U]at this;exact this
     have W:=lJ s z S.1;rw[S.2]at W;have O:=qH s _ _ _ _ _ _ _ _ U W;have Y:l+1+1+((k-c:Nat):Int)=y.J+1:=(by rw[a5];omega);rw[Y]at O;have br:y.hi=hi:=aJ.da s _ _ _ _ _ a6 O;rcases T with⟨x,B,be,bd,J,L,N⟩|⟨bv,_⟩
     ·rw[a1]at B;cases B;rw[J,L,N];exact⟨by omega,bi,O⟩
     ·exact absurd br (bv y a1 bt)
    ·have U:(k+1,j,q)=(c,E,I):=by
      have:(!false&&bN (q.take (2 ^ k)) (q.drop (2 ^ k))&&bN (q.take (2 ^ k)) (j.drop (2 ^ k)))=false:=by
       rw[Bool.not_false,Bool.true_and];cases bn:bN (q.take (2 ^ k)) (q.drop (2 ^ k))with
       |false=>rfl
       |true=>
        rw[Bool.true_and];cases a2:bN (q.take (2 ^ k)) (j.drop (2 ^ k))with
        |false=>rfl
        |true=>exact absurd ⟨gi.1 bn,gi.1 a2⟩ S
      rw[this]at A;exact A
     rcases T with⟨x,B,be,bd,J,L,N⟩|⟨_,J,L,N⟩
     ·exfalso;rw[a1]at B;cases B;obtain⟨d,a3,a4,ad⟩:∃c a3 a4,dt k (j.take (2 ^ k)) (j.drop (2 ^ k))=(c,a3,a4):=⟨_,_,_,rfl⟩;obtain⟨a5,bi,a6⟩:=bf d a3 a4 ad
      have bp:d≤k:=by
       have:=l0 k (j.take (2 ^ k)) (j.drop (2 ^ k));rw[ad]at this;exact this
      obtain⟨_,A,j,_,Z,_⟩:=id t;have O:=qH s _ _ _ _ _ _ _ _ ad Z;have Y:l+1+1+((k-d:Nat):Int)=y.J+1:=(by rw[a5];omega);rw[Y]at O;have bq:j=hi:=(aJ.da s _ _ _ _ _ O a6).trans bd;subst bq;by_cases av:q.take (2 ^ k)=q.drop (2 ^ k);·exact S ⟨av,aJ.inj s _ _ _ _ _ (lJ s z av) Z⟩
      ·obtain⟨v,j,q,_⟩:=bg _ _ _ z a' av;have:=Z.I s (by decide) bb j;omega
     ·cases U;rw[J,L,N];exact⟨by simp,t,z⟩
theorem DU {M:St}(E:M.wf):∀(k:Nat) (ts:List Bool) (l:Int) (e:Edge),aJ 3 M k ts l e→l+(k:Nat)=M.n→∀m n,k≤m→k≤n→bR 3 M (m+1) e=iM (n+1) k ts l:=by
 intro k;induction k using Nat.strongRecOn with
 |ind k s=>
  intro ts l e h j m n T T;cases k with
  |zero=>
   obtain⟨b,rfl,rfl⟩:=h;cases b;·exact(iR (by decide) (show(0:Int)<2 by decide)).trans kY
   ·exact(iR (by decide) (show(1:Int)<2 by decide)).trans ma
  |succ k=>
   have O:iM (n+1) (k+1) ts l=(if bN (ts.take (2 ^ k)) (ts.drop (2 ^ k))then iM n k (ts.take (2 ^ k)) (l+1)
    else⟨#[40]⟩++bQ l++⟨#[58]⟩++bQ (l+(k-(dt k (ts.take (2 ^ k)) (ts.drop (2 ^ k))).1:Nat))++⟨#[32]⟩++iM n (dt k (ts.take (2 ^ k)) (ts.drop (2 ^ k))).1 (dt k (ts.take (2 ^ k)) (ts.drop (2 ^ k))).2.1 (l+(k-(dt k (ts.take (2 ^ k)) (ts.drop (2 ^ k))).1:Nat)+1)++⟨#[32]⟩++iM n (dt k (ts.take (2 ^ k)) (ts.drop (2 ^ k))).1 (dt k (ts.take (2 ^ k)) (ts.drop (2 ^ k))).2.2 (l+(k-(dt k (ts.take (2 ^ k)) (ts.drop (2 ^ k))).1:Nat)+1)++⟨#[41]⟩):=rfl
   rw[O];obtain⟨n,rfl⟩:∃O,n=O+1:=⟨n-1,by omega⟩;cases B:bN (ts.take (2 ^ k)) (ts.drop (2 ^ k))with
   |true=>
    rw[ah rfl];exact s k (by omega) _ _ _ (lJ E h (gi.1 B)) (by push_cast at j ⊢;omega) m n (by omega) (by omega)
   |false=>
    rw[ag (by decide)];obtain⟨r,N,S,L⟩:=CA E k ts l e h j (kG.1 B);obtain⟨c,t,z,q⟩:∃c t z,dt k (ts.take (2 ^ k)) (ts.drop (2 ^ k))=(c,t,z):=⟨_,_,_,rfl⟩;obtain⟨A,I,J⟩:=L c t z q
    have t:c≤k:=by
     have:=l0 k (ts.take (2 ^ k)) (ts.drop (2 ^ k));rw[q]at this;exact this
    obtain⟨m,rfl⟩:∃t,m=t+1:=⟨m-1,by omega⟩;rw[q,uk (.inl rfl) N];have q:r.J+1+(c:Nat)=M.n:=(by rw[A];push_cast at j ⊢;omega);rw[s c (by omega) _ _ _ I q m n (by omega) (by omega),s c (by omega) _ _ _ J q m n (by omega) (by omega),S,A]
theorem rU {M:St}{l:Int}{lo hi e:Edge}(h:dJ 5 M l lo hi e) :
  (lo=hi∧e=lo)∨(lo≠hi∧hi.to=0∧lo.tag=l+1∧e=⟨l,lo.to⟩)∨(lo≠hi∧¬(hi.to=0∧lo.tag=l+1)∧e.tag=l∧∃r,look M.cs e.to=some r∧r.I=l∧r.lo=lo∧r.hi=hi):=by
 rcases h.up with u|⟨r,u,s,t⟩
 ·rw[gS]at u;unfold bO at u;split at u;·cases u
  ·split at u;·cases u
   ·split at u
    ·rename_i j;cases u;exact .inl ⟨j,rfl⟩
    ·rename_i j;split at u
     ·rename_i q;cases u;exact .inr (.inl ⟨j,q.1,q.2,rfl⟩)
     ·cases u
 ·rw[gS]at u;unfold bO at u;split at u;·cases u
  ·split at u;·cases u
   ·split at u;·cases u
    ·rename_i j;split at u;·cases u
     ·rename_i q;cases u;exact .inr (.inr ⟨j,q,t,_,s,rfl,rfl,rfl⟩)
theorem pW {M:St}:∀(k:Nat) (ts:List Bool) (l:Int) (e:Edge),aJ 5 M k ts l e→(bE ts=true→e=⟨0,0⟩)∧(e.to=0→bE ts=true):=by
 intro k;induction k with
 |zero=>
  intro ts l e h;obtain⟨b,rfl,rfl⟩:=h;cases b;·exact⟨fun _=>rfl,fun _=>rfl⟩
  ·exact⟨fun j=>(by cases j),fun j=>(by cases j)⟩
 |succ k s=>
  intro ts l e h;obtain⟨_,lo,hi,z,A,B⟩:=h;have a:=s _ _ _ z;have b:=s _ _ _ A;rw[mC (2 ^ k),bT];rcases rU B with⟨rfl,rfl⟩|⟨q,t,E,rfl⟩|⟨q,t,E,r,s,_⟩
  ·exact⟨fun j=>a.1 j.1,fun j=>⟨a.2 j,b.2 j⟩⟩
  ·refine⟨fun j=>absurd ((a.1 j.1).trans (b.1 j.2).symm) q,fun j=>⟨a.2 j,b.2 t⟩⟩
  ·have:=ji s;exact⟨fun j=>absurd ((a.1 j.1).trans (b.1 j.2).symm) q,fun j=>absurd j (by omega)⟩
theorem tO:∀(k:Nat) (ts:List Bool),jb k ts=false→cT k ts=(k,ts):=by
 intro k ts h;cases k with
 |zero=>rfl
 |succ k=>
  have j:bN (ts.take (2 ^ k)) (ts.drop (2 ^ k))=false:=h;show(if bN (ts.take (2 ^ k)) (ts.drop (2 ^ k))=true then _ else _)=_;rw[j];rfl
theorem Dd {k:Nat}{ts:List Bool}(h:jb k ts=true):(cT k ts).1<k:=by
 cases k with
 |zero=>cases h
 |succ k=>
  have j:bN (ts.take (2 ^ k)) (ts.drop (2 ^ k))=true:=h
  have:cT (k+1) ts=cT k (ts.take (2 ^ k)):=by
   show(if bN (ts.take (2 ^ k)) (ts.drop (2 ^ k))=true then _ else _)=_;rw[ah j]
  rw[this];have:=pI k (ts.take (2 ^ k));omega
theorem CC {M:St}(ad:M.wf):∀(k:Nat) (ts:List Bool) (l:Int) (e:Edge),aJ 5 M k ts l e→0≤l→bE ts=false →
  e.tag=l+(k-(cT k ts).1:Nat)∧∀c q,gJ (cT k ts).1 (cT k ts).2=(c,q) →
   (c=0→e.to=1)∧∀t,c=t+1→∃r,look M.cs e.to=some r∧r.I=l+(k-c:Nat)∧aJ 5 M t (q.take (2 ^ t)) (r.I+1) r.lo∧aJ 5 M t (q.drop (2 ^ t)) (r.I+1) r.hi:=by
 intro k
 induction k with
 |zero=>
  intro ts l e h bg Z;obtain⟨b,rfl,rfl⟩:=h;cases b;·cases Z
  ·refine⟨by show l=l+((0-0:Nat):Int);simp,fun c q A=>?_⟩;have B:(0,[true])=(c,q):=A;cases B;exact⟨fun _=>rfl,fun t L=>by omega⟩
 |succ k al=>
  intro ts l e h bg Z;have h:=id h;obtain⟨_,lo,hi,z,E,bi⟩:=id h;have bf:=pW _ _ _ _ z;have X:=pW _ _ _ _ E;obtain⟨j,S⟩:∃j,j=ts.take (2 ^ k):=⟨_,rfl⟩;obtain⟨s,T⟩:∃s,s=ts.drop (2 ^ k):=⟨_,rfl⟩;have J:(bE j&&bE s)=false:=by rw[S,T,←mC];exact Z
  have hS:cT (k+1) ts=(if bN j s then cT k j else(k+1,ts)):=by rw[S,T];rfl
  have a7:gJ (k+1) ts=(if bE s&&!jb k j then gJ k j else(k+1,ts)):=by rw[S,T];rfl
  have bb:ts.take (2 ^ k)=j:=S.symm;have bd:ts.drop (2 ^ k)=s:=T.symm;rw[bb]at z bf;rw[bd]at E X;have S:=pI k j;rcases rU bi with⟨rfl,rfl⟩|⟨a6,a0,be,rfl⟩|⟨a6,a0,be,r,bq,ab,bs,br⟩
  ·have I:j=s:=aJ.inj ad _ _ _ _ _ z E;rw[←I,Bool.and_self]at J;obtain⟨N,W⟩:=al _ _ _ z (by omega) J;rw[hS,gi.2 I,ah rfl];refine⟨by rw[N];omega,fun c q A=>?_⟩;obtain⟨am,av⟩:=W c q A
   have bn:c≤(cT k j).1:=by
    have:=pJ (cT k j).1 (cT k j).2;rw[A]at this;exact this
   refine⟨am,fun t L=>?_⟩;obtain⟨r,a1,a3,a4,a5⟩:=av t L;exact⟨r,a1,by rw[a3];omega,a4,a5⟩
  ·have I:j≠s:=fun U=>a6 (by subst U;exact aJ.da ad _ _ _ _ _ z E);have O:bE s=true:=X.2 a0;have aw:bE j=false:=(by rw[O,Bool.and_true]at J;exact J);obtain⟨N,W⟩:=al _ _ _ z (by omega) aw
   have a8:jb k j=false:=by
    cases Y:jb k j with
    |false=>rfl
    |true=>
     have:=Dd Y;omega
   rw[tO k j a8]at W;rw[hS,kG.2 I,ag (by decide)];refine⟨by show l=_;simp,fun c q A=>?_⟩;have B:gJ (k+1) ts=(c,q):=A;rw[a7,O,a8]at B;have a':gJ k j=(c,q):=B;obtain⟨am,av⟩:=W c q a'
   have bn:c≤k:=by
    have:=pJ k j;rw[a']at this;exact this
   refine⟨am,fun t L=>?_⟩;obtain⟨r,a1,a3,a4,a5⟩:=av t L;exact⟨r,a1,by rw[a3];omega,a4,a5⟩
  ·have I:j≠s:=fun U=>a6 (by subst U;exact aJ.da ad _ _ _ _ _ z E);rw[hS,kG.2 I,ag (by decide)];refine⟨by rw[be];simp,fun c q A=>?_⟩;have B:gJ (k+1) ts=(c,q):=A
   have bp:(bE s&&!jb k j)=false:=by
    cases O:bE s with
    |false=>rfl
    |true=>
     have aw:bE j=false:=(by rw[O,Bool.and_true]at J;exact J);cases Y:jb k j with
     |true=>rfl
     |false=>
      exfalso;obtain⟨N,_⟩:=al _ _ _ z (by omega) aw;rw[tO k j Y]at N;exact a0 ⟨by rw[X.1 O],by rw[N];simp⟩
   rw[a7,bp]at B;cases B;refine⟨fun U=>by omega,fun t L=>?_⟩;obtain rfl:k=t:=(by omega);refine⟨r,bq,by rw[ab];simp,?_,?_⟩;·rw[ab,bs,bb];exact z
   ·rw[ab,br,bd];exact E
theorem D4 {M:St}{n:Nat}{e:Edge}(h:e.to=0):bR 5 M (n+1) e=⟨#[48]⟩:=by
 show(if(5:Int)=5 then(if e.to=0 then _ else _)else _)=_;rw[ah (by decide),ah h]
theorem D5 {M:St}{n:Nat}{e:Edge}(h:e.to=1):bR 5 M (n+1) e=bQ e.tag++⟨#[64]⟩++⟨#[49]⟩:=by
 show(if(5:Int)=5 then(if e.to=0 then _ else if e.to=1 then _ else _)else _)=_;rw[ah (by decide),ag (by omega),ah h]
theorem D1 {M:St}{n:Nat}{e:Edge}{r:Rec}(h:look M.cs e.to=some r) :
  bR 5 M (n+1) e=bQ e.tag++⟨#[64]⟩++⟨#[40]⟩++bQ r.I++⟨#[32]⟩++bR 5 M n r.lo++⟨#[32]⟩++bR 5 M n r.hi++⟨#[41]⟩:=by
 have:=ji h
 show(if(5:Int)=5 then(if e.to=0 then _ else if e.to=1 then _ else _)else _)=_
 rw[ah (by decide),ag (by omega),ag (by omega),h]
 rfl
theorem DW {M:St}(I:M.wf):∀(k:Nat) (ts:List Bool) (l:Int) (e:Edge),aJ 5 M k ts l e→l+(k:Nat)=M.n→0≤l→∀m n,k≤m→k≤n→bR 5 M (m+1) e=jL (n+1) k ts l:=by
 intro k;induction k using Nat.strongRecOn with
 |ind k t=>
  intro ts l e h W B m n W W
  have E:jL (n+1) k ts l=(if bE ts then⟨#[48]⟩else
   match gJ (cT k ts).1 (cT k ts).2 with
   |(0,_)=>bQ (l+(k-(cT k ts).1:Nat))++⟨#[64]⟩++⟨#[49]⟩
   |(c+1,j)=>bQ (l+(k-(cT k ts).1:Nat))++⟨#[64]⟩++⟨#[40]⟩++bQ (l+(k-(c+1):Nat))++⟨#[32]⟩++jL n c (j.take (2 ^ c)) (l+(k-c:Nat))++⟨#[32]⟩++jL n c (j.drop (2 ^ c)) (l+(k-c:Nat))++⟨#[41]⟩):=rfl
  rw[E];have J:=pW _ _ _ _ h;cases s:bE ts with
  |true=>rw[ah rfl];exact D4 (by rw[J.1 s])
  |false=>
   rw[ag (by decide)];obtain⟨A,U⟩:=CC I k ts l e h B s;obtain⟨c,j,q⟩:∃c j,gJ (cT k ts).1 (cT k ts).2=(c,j):=⟨_,_,rfl⟩;obtain⟨L,N⟩:=U c j q;have j:=pI k ts
   have j:c≤(cT k ts).1:=by
    have:=pJ (cT k ts).1 (cT k ts).2;rw[q]at this;exact this
   rw[q];cases c with
   |zero=>
    simp only[];rw[D5 (L rfl),A]
   |succ c=>
    simp only[];obtain⟨r,O,z,S,T⟩:=N c rfl;obtain⟨m,rfl⟩:∃j,m=j+1:=⟨m-1,by omega⟩;obtain⟨n,rfl⟩:∃j,n=j+1:=⟨n-1,by omega⟩;have j:r.I+1+(c:Nat)=M.n:=(by rw[z];omega);rw[D1 O,t c (by omega) _ _ _ S j (by omega) m n (by omega) (by omega),t c (by omega) _ _ _ T j (by omega) m n (by omega) (by omega),A,z];rw[show l+((k-(c+1):Nat):Int)+1=l+((k-c:Nat):Int) by omega]
def eQ (b:Bool):Int:=if b then 1 else 0
theorem jN (x k:Int)(w:World)(j:0≤x)(L:x≤65535)(I:0≤k)(J:k≤16) :
  Calls Tryz.prog 43 #[.int .i64 x,.int .i64 k] w fun e w'=>e=.returned (.int .i64 (eQ (ax x k)))∧w=w':=by
 obtain⟨n,rfl⟩:∃n:Nat,k=(n:Int):=⟨k.toNat,by omega⟩
 have q:=aa (mU n (by omega) w)
 have z:2 ^ n≤2 ^ 16:=aW (by decide) (by omega)
 have E:0<2 ^ n:=eG (by decide)
 have B:(2:Nat) ^ 16=65536:=rfl
 have A:eQ (ax x n)=x / ((2 ^ n:Nat):Int)%2:=by
  unfold eQ ax;have s:((2 ^ n:Nat):Int)=2 ^ (n:Int).toNat:=by push_cast;rfl
  rw[s];by_cases h:x / 2 ^ (n:Int).toNat%2=1;·rw[bc h,h];rfl
  ·rw[aY h];show(0:Int)=_;omega
 rw[A]
 obtain⟨p,t⟩:∃p,p=2 ^ n:=⟨_,rfl⟩
 rw[←t]at q z E ⊢
 rw[B]at z
 clear t A
 have t:(p:Int)≠0:=by omega
 have t:((p:Int)==0)=false:=by simp;omega
 have s:x.tdiv (p:Int)=x / (p:Int):=Int.tdiv_eq_ediv_of_nonneg j
 have s:0≤x / (p:Int):=Int.ediv_nonneg j (by omega)
 have t:x / (p:Int)≤x:=Int.ediv_le_self _ j
 have j:(x / (p:Int)).tmod 2=x / (p:Int)%2:=Int.tmod_eq_emod_of_nonneg s
 go_enter Tryz.func43,Tryz.ntmps43
 go_wp2_with (first|(go_at_call 29;refine q.out.mono ?_;rintro e w' ⟨rfl,rfl⟩)|fail)
 go_ret
 exact⟨by rfl,rfl⟩
theorem BS (f:Int)(w:World):Calls Tryz.prog 36 #[.int .u8 f] w fun e w'=>e=.returned (.bool (aR f))∧w=w':=by
 unfold aR;by_cases j:1≤f
 ·by_cases q:f≤5
  ·rw[bc j,bc q];go_enter Tryz.func36,Tryz.ntmps36;go_wp2;go_ret;exact⟨rfl,rfl⟩
  ·rw[bc j,aY q];go_enter Tryz.func36,Tryz.ntmps36;go_wp2;go_ret;exact⟨rfl,rfl⟩
 ·rw[aY j];go_enter Tryz.func36,Tryz.ntmps36;go_wp2;go_ret;exact⟨rfl,rfl⟩
theorem BI (sb:Nat)(f l n x:Int)(e:Edge)(b R:Bool)(w:World)(aw:sb<w.heap.size)(al:1≤f∧f≤5)(a0:e.to≠0)(N:e.ok)(am:0≤l)(ab:l<n)(av:n≤16)(ad:w.cell? ⟨sb,3,none⟩=some (.int .i64 n))
  (O:∀j,ae w j→Calls Tryz.prog 88 #[.pointer (some ⟨sb,0,none⟩),.int .u32 e.to] j fun r w'=>r=.returned (.int .i64 (-1))∧j=w')
  (T:∀j,Calls Tryz.prog 43 #[.int .i64 x,.int .i64 l] j fun r w'=>r=.returned (.int .i64 (eQ b))∧j=w')
  (hi:∀j,ae w j→Calls Tryz.prog 155 #[.pointer (some ⟨sb,0,none⟩),.int .u8 f,.agg #[.int .u8 e.tag,.int .u32 e.to],.int .i64 (l+1),.int .i64 x] j fun r w'=>r=.returned (.bool R)∧ae j w') :
  Calls Tryz.prog 155 #[.pointer (some ⟨sb,0,none⟩),.int .u8 f,.agg #[.int .u8 e.tag,.int .u32 e.to],.int .i64 l,.int .i64 x] w fun r w'=>r=.returned (.bool (if aP f e l&&b then false else R))∧ae w w':=by
 have j:0≤e.tag:=N.1.1
 have j:e.tag≤255:=N.1.2
 have j:0<e.to:=by have:=N.2.1;omega
 have j:sb<w.heap.size+1:=by omega
 have j:∀d:Int,l<n:=fun _=>ab
 have q:=aa O
 have t:=aa T
 have s:=aa hi
 clear O T hi j
 by_cases U:f=1
 ·subst U;rw[show aP 1 e l=false from rfl];cases b;all_goals(go_enter Tryz.func155,Tryz.ntmps155;go_wp2_with (first|(go_at_call 88;refine(q.out _ kp).mono ?_;rintro z I ⟨rfl,rfl⟩)|(go_at_call 43;refine(t.out _).mono ?_;rintro A J ⟨rfl,rfl⟩)|(go_at_call 155;refine(s.out _ kp).mono ?_;rintro B L ⟨rfl,E⟩)|fail);all_goals first|(exfalso;omega)|(go_ret;exact⟨rfl,kp⟩))
 ·by_cases W:f=2
  ·subst W;rw[show aP 2 e l=true from rfl];cases b;all_goals(go_enter Tryz.func155,Tryz.ntmps155;go_wp2_with (first|(go_at_call 88;refine(q.out _ kp).mono ?_;rintro z I ⟨rfl,rfl⟩)|(go_at_call 43;refine(t.out _).mono ?_;rintro A J ⟨rfl,rfl⟩)|(go_at_call 155;refine(s.out _ kp).mono ?_;rintro B L ⟨rfl,E⟩)|fail);all_goals first|(exfalso;omega)|(go_ret;exact⟨rfl,kp⟩))
  ·by_cases X:f=3
   ·subst X;rw[show aP 3 e l=false from rfl];cases b;all_goals(go_enter Tryz.func155,Tryz.ntmps155;go_wp2_with (first|(go_at_call 88;refine(q.out _ kp).mono ?_;rintro z I ⟨rfl,rfl⟩)|(go_at_call 43;refine(t.out _).mono ?_;rintro A J ⟨rfl,rfl⟩)|(go_at_call 155;refine(s.out _ kp).mono ?_;rintro B L ⟨rfl,E⟩)|fail);all_goals first|(exfalso;omega)|(go_ret;exact⟨rfl,kp⟩))
   ·by_cases Y:f=4
    ·subst Y;rw[show aP 4 e l=true from rfl];cases b;all_goals(go_enter Tryz.func155,Tryz.ntmps155;go_wp2_with (first|(go_at_call 88;refine(q.out _ kp).mono ?_;rintro z I ⟨rfl,rfl⟩)|(go_at_call 43;refine(t.out _).mono ?_;rintro A J ⟨rfl,rfl⟩)|(go_at_call 155;refine(s.out _ kp).mono ?_;rintro B L ⟨rfl,E⟩)|fail);all_goals first|(exfalso;omega)|(go_ret;exact⟨rfl,kp⟩))
    ·have Z:f=5:=(by omega);subst Z;by_cases S:e.tag≤l
     ·rw[show aP 5 e l=true by unfold aP;rw[bc S];rfl];cases b;all_goals(go_enter Tryz.func155,Tryz.ntmps155;go_wp2_with (first|(go_at_call 88;refine(q.out _ kp).mono ?_;rintro z I ⟨rfl,rfl⟩)|(go_at_call 43;refine(t.out _).mono ?_;rintro A J ⟨rfl,rfl⟩)|(go_at_call 155;refine(s.out _ kp).mono ?_;rintro B L ⟨rfl,E⟩)|fail);all_goals first|(exfalso;omega)|(go_ret;exact⟨rfl,kp⟩))
     ·rw[show aP 5 e l=false by unfold aP;rw[aY S];rfl];cases b;all_goals(go_enter Tryz.func155,Tryz.ntmps155;go_wp2_with (first|(go_at_call 88;refine(q.out _ kp).mono ?_;rintro z I ⟨rfl,rfl⟩)|(go_at_call 43;refine(t.out _).mono ?_;rintro A J ⟨rfl,rfl⟩)|(go_at_call 155;refine(s.out _ kp).mono ?_;rintro B L ⟨rfl,E⟩)|fail);all_goals first|(exfalso;omega)|(go_ret;exact⟨rfl,kp⟩))
theorem BG (sb:Nat)(f l n x:Int)(e:Edge)(b R:Bool)(w:World)(a6:sb<w.heap.size)(a0:1≤f∧f≤5)(a':e.to≠0)(O:e.ok)(a1:0≤l)(ad:l<n)(a5:n≤16)(av:w.cell? ⟨sb,3,none⟩=some (.int .i64 n))
  (N:Int) (lb D len cap:Nat) (a7:0≤N) (a8:N≤255) (a4:l<N) (am:w.cell? ⟨sb,0,none⟩=some (.slice (some ⟨lb,0,none⟩) len cap)) (aw:D<len) (a3:len≤1048576) (al:w.cell? ⟨lb,D*8+2,none⟩=some (.int .u8 N))
  (S:∀j,ae w j→Calls Tryz.prog 88 #[.pointer (some ⟨sb,0,none⟩),.int .u32 e.to] j fun r w'=>r=.returned (.int .i64 (D:Int))∧j=w')
  (U:∀j,Calls Tryz.prog 43 #[.int .i64 x,.int .i64 l] j fun r w'=>r=.returned (.int .i64 (eQ b))∧j=w')
  (hi:∀j,ae w j→Calls Tryz.prog 155 #[.pointer (some ⟨sb,0,none⟩),.int .u8 f,.agg #[.int .u8 e.tag,.int .u32 e.to],.int .i64 (l+1),.int .i64 x] j fun r w'=>r=.returned (.bool R)∧ae j w') :
  Calls Tryz.prog 155 #[.pointer (some ⟨sb,0,none⟩),.int .u8 f,.agg #[.int .u8 e.tag,.int .u32 e.to],.int .i64 l,.int .i64 x] w fun r w'=>r=.returned (.bool (if aP f e l&&b then false else R))∧ae w w':=by
 have j:0≤e.tag:=O.1.1
 have j:e.tag≤255:=O.1.2
 have j:lb<w.heap.size:=aB al
 have j:lb<w.heap.size+1:=by omega
 have j:0<e.to:=by have:=O.2.1;omega
 have j:sb<w.heap.size+1:=by omega
 have j:∀d:Int,l<n:=fun _=>ad
 have q:=aa S
 have t:=aa U
 have s:=aa hi
 clear S U hi j
 by_cases W:f=1
 ·subst W;rw[show aP 1 e l=false from rfl];cases b;all_goals(go_enter Tryz.func155,Tryz.ntmps155;go_wp2_with (first|(go_at_call 88;refine(q.out _ kp).mono ?_;rintro z I ⟨rfl,rfl⟩)|(go_at_call 43;refine(t.out _).mono ?_;rintro A J ⟨rfl,rfl⟩)|(go_at_call 155;refine(s.out _ kp).mono ?_;rintro B L ⟨rfl,E⟩)|fail);all_goals first|(exfalso;omega)|(go_ret;exact⟨rfl,kp⟩))
 ·by_cases X:f=2
  ·subst X;rw[show aP 2 e l=true from rfl];cases b;all_goals(go_enter Tryz.func155,Tryz.ntmps155;go_wp2_with (first|(go_at_call 88;refine(q.out _ kp).mono ?_;rintro z I ⟨rfl,rfl⟩)|(go_at_call 43;refine(t.out _).mono ?_;rintro A J ⟨rfl,rfl⟩)|(go_at_call 155;refine(s.out _ kp).mono ?_;rintro B L ⟨rfl,E⟩)|fail);all_goals first|(exfalso;omega)|(go_ret;exact⟨rfl,kp⟩))
  ·by_cases Y:f=3
   ·subst Y;rw[show aP 3 e l=false from rfl];cases b;all_goals(go_enter Tryz.func155,Tryz.ntmps155;go_wp2_with (first|(go_at_call 88;refine(q.out _ kp).mono ?_;rintro z I ⟨rfl,rfl⟩)|(go_at_call 43;refine(t.out _).mono ?_;rintro A J ⟨rfl,rfl⟩)|(go_at_call 155;refine(s.out _ kp).mono ?_;rintro B L ⟨rfl,E⟩)|fail);all_goals first|(exfalso;omega)|(go_ret;exact⟨rfl,kp⟩))
   ·by_cases Z:f=4
    ·subst Z;rw[show aP 4 e l=true from rfl];cases b;all_goals(go_enter Tryz.func155,Tryz.ntmps155;go_wp2_with (first|(go_at_call 88;refine(q.out _ kp).mono ?_;rintro z I ⟨rfl,rfl⟩)|(go_at_call 43;refine(t.out _).mono ?_;rintro A J ⟨rfl,rfl⟩)|(go_at_call 155;refine(s.out _ kp).mono ?_;rintro B L ⟨rfl,E⟩)|fail);all_goals first|(exfalso;omega)|(go_ret;exact⟨rfl,kp⟩))
    ·have ab:f=5:=(by omega);subst ab;by_cases T:e.tag≤l
     ·rw[show aP 5 e l=true by unfold aP;rw[bc T];rfl];cases b;all_goals(go_enter Tryz.func155,Tryz.ntmps155;go_wp2_with (first|(go_at_call 88;refine(q.out _ kp).mono ?_;rintro z I ⟨rfl,rfl⟩)|(go_at_call 43;refine(t.out _).mono ?_;rintro A J ⟨rfl,rfl⟩)|(go_at_call 155;refine(s.out _ kp).mono ?_;rintro B L ⟨rfl,E⟩)|fail);all_goals first|(exfalso;omega)|(go_ret;exact⟨rfl,kp⟩))
     ·rw[show aP 5 e l=false by unfold aP;rw[aY T];rfl];cases b;all_goals(go_enter Tryz.func155,Tryz.ntmps155;go_wp2_with (first|(go_at_call 88;refine(q.out _ kp).mono ?_;rintro z I ⟨rfl,rfl⟩)|(go_at_call 43;refine(t.out _).mono ?_;rintro A J ⟨rfl,rfl⟩)|(go_at_call 155;refine(s.out _ kp).mono ?_;rintro B L ⟨rfl,E⟩)|fail);all_goals first|(exfalso;omega)|(go_ret;exact⟨rfl,kp⟩))
theorem BJ (sb:Nat)(f n x:Int)(e:Edge)(r:Rec)(R:Bool)(w:World)(b3:sb<w.heap.size)(bg:r.al=f)(b5:e.to≠0)(U:e.ok)(E:r.ok)(b4:r.I≤r.J)(b0:r.J<n)(b2:n≤16)(bx:w.cell? ⟨sb,3,none⟩=some (.int .i64 n))
  (lb D len cap:Nat) (bw:w.cell? ⟨sb,0,none⟩=some (.slice (some ⟨lb,0,none⟩) len cap)) (bD:D<len) (b1:len≤1048576)
  (b6:w.cell? ⟨lb,D*8+1,none⟩=some (.int .u8 r.al)) (a':w.cell? ⟨lb,D*8+2,none⟩=some (.int .u8 r.I)) (b7:w.cell? ⟨lb,D*8+3,none⟩=some (.int .u8 r.J)) (b8:w.cell? ⟨lb,D*8+4,none⟩=some (.int .u8 r.lo.tag)) (b9:w.cell? ⟨lb,D*8+5,none⟩=some (.int .u32 r.lo.to)) (ca:w.cell? ⟨lb,D*8+6,none⟩=some (.int .u8 r.hi.tag)) (cb:w.cell? ⟨lb,D*8+7,none⟩=some (.int .u32 r.hi.to))
  (bd:∀j,ae w j→Calls Tryz.prog 88 #[.pointer (some ⟨sb,0,none⟩),.int .u32 e.to] j fun r w'=>r=.returned (.int .i64 (D:Int))∧j=w')
  (a1:∀j k,0≤k→k≤16→Calls Tryz.prog 43 #[.int .i64 x,.int .i64 k] j fun r w'=>r=.returned (.int .i64 (eQ (ax x k)))∧j=w')
  (hi:∀j,ae w j→Calls Tryz.prog 155 #[.pointer (some ⟨sb,0,none⟩),.int .u8 f,.agg #[.int .u8 (aT x r).tag,.int .u32 (aT x r).to],.int .i64 (r.J+1),.int .i64 x] j fun r w'=>r=.returned (.bool R)∧ae j w') :
  Calls Tryz.prog 155 #[.pointer (some ⟨sb,0,none⟩),.int .u8 f,.agg #[.int .u8 e.tag,.int .u32 e.to],.int .i64 r.I,.int .i64 x] w fun r w'=>r=.returned (.bool R)∧ae w w':=by
 have bw:0≤e.tag:=U.1.1
 have bw:e.tag≤255:=U.1.2
 have bt:0≤r.I:=E.I.1
 have bw:r.I≤255:=E.I.2
 have bv:0≤r.J:=E.J.1
 have bw:r.J≤255:=E.J.2
 have bw:lb<w.heap.size:=aB a'
 have a':lb<w.heap.size+1:=by omega
 have a':0<e.to:=by have:=U.2.1;omega
 have a':sb<w.heap.size+1:=by omega
 have a':r.I<n:=by omega
 obtain⟨a',be⟩:∃a',a'=eQ (ax x r.I):=⟨_,rfl⟩
 have a3:=fun j=>a1 j r.I bt (by omega)
 rw[←be]at a3
 have bs:=aa a3
 have bq:=aa bd
 have a8:=aa a1
 have L:=aa hi
 have a6:=aa bg
 obtain⟨N,bb⟩:∃N,N=(r.J+1-r.I).toNat:=⟨_,rfl⟩
 have a7:=aa bb
 clear bd a1 hi be a3 bg bb U E
 go_enter Tryz.func155,Tryz.ntmps155
 go_wp2_with (first|(go_at_call 88;refine(bq.out _ kp).mono ?_;rintro E E ⟨rfl,rfl⟩)|(go_at_call 43;refine(bs.out _).mono ?_;rintro S W ⟨rfl,rfl⟩)|fail)
 go_loopg [15,16] N (fun gk E U wr=>∃(s:Bool) (k:Int),E=.bool s∧U=.int .i64 k∧r.I≤k∧k≤r.J+1∧gk=(r.J+1-k).toNat∧(s||!cw x k gk)=!cw x r.I N∧(wr.cell? ⟨(w.heap.size+1),0,none⟩=some (.int .u8 r.al)∧wr.cell? ⟨(w.heap.size+1),1,none⟩=some (.int .u8 r.I)∧wr.cell? ⟨(w.heap.size+1),2,none⟩=some (.int .u8 r.J)∧wr.cell? ⟨(w.heap.size+1),3,none⟩=some (.int .u8 r.lo.tag)∧wr.cell? ⟨(w.heap.size+1),4,none⟩=some (.int .u32 r.lo.to)∧wr.cell? ⟨(w.heap.size+1),5,none⟩=some (.int .u8 r.hi.tag)∧wr.cell? ⟨(w.heap.size+1),6,none⟩=some (.int .u32 r.hi.to))∧ae w wr)
 case atStart=>exact⟨false,r.I,rfl,rfl,by omega,by omega,a7.out,rfl,⟨by simp[go_sem],by simp[go_sem],by simp[go_sem],by simp[go_sem],by simp[go_sem],by simp[go_sem],by simp[go_sem]⟩,kp⟩
 case round=>
  obtain⟨s,k,rfl,rfl,bg,bq,N,E,⟨U,a1,a3,a',bb,bd,be⟩,aw⟩:=hrel;have J:=aa E;have Z:=aa N;have X:=aa (And.intro U (And.intro a1 (And.intro a3 (And.intro a' (And.intro bb (And.intro bd be))))));clear E N;by_cases E:k≤r.J
  ·obtain⟨g,rfl⟩:∃g,gk=g+1:=⟨gk-1,by have:=Z.out;omega⟩;have bn:g=(r.J+1-(k+1)).toNat:=(by have:=Z.out;omega);have ab:=aa bn;have bf:cw x k (g+1)=(!ax x k&&cw x (k+1) g):=rfl;have a5:=aa bf;clear bn bf;cases s
   ·have q:=fun j=>a8.out j k (by omega) (by omega);rcases cr (ax x k)with A|A
    ·rw[A]at q;have t:Hid (∀j,Calls Tryz.prog 43 #[.int .i64 x,.int .i64 k] j fun r w'=>r=.returned (.int .i64 0)∧j=w'):=aa q;have Y:=aa A;clear A q;go_wp2_with (first|(go_at_call 43;refine(t.out _).mono ?_;rintro S W ⟨rfl,rfl⟩)|fail)
     go_roundg g
     case rel=>exact⟨false,k+1,rfl,rfl,by omega,by omega,ab.out,by rw[←J.out,a5.out,Y.out];rfl,X.out,aw⟩
     case measure=>omega
    ·rw[A]at q;have t:Hid (∀j,Calls Tryz.prog 43 #[.int .i64 x,.int .i64 k] j fun r w'=>r=.returned (.int .i64 1)∧j=w'):=aa q;have Y:=aa A;clear A q;go_wp2_with (first|(go_at_call 43;refine(t.out _).mono ?_;rintro S W ⟨rfl,rfl⟩)|fail)
     go_roundg g
     case rel=>exact⟨true,k+1,rfl,rfl,by omega,by omega,ab.out,by rw[←J.out,a5.out,Y.out];rfl,X.out,aw⟩
     case measure=>omega
   ·go_wp2_with fail;go_roundg g
    case rel=>exact⟨true,k+1,rfl,rfl,by omega,by omega,ab.out,by rw[←J.out];rfl,X.out,aw⟩
    case measure=>omega
  ·have bi:gk=0:=(by have:=Z.out;omega);have bp:s=!cw x r.I (r.J+1-r.I).toNat:=by rw[←a7.out,←J.out,bi];cases s<;>rfl
   have br:=aa bp;clear bi bp;by_cases T:f=3
   ·have I:aT x r=if s then r.hi else r.lo:=(by unfold aT eJ;rw[ah (a6.out.trans T),←br.out]);have B:=aa I;subst T;clear I;cases s
    ·have al:Hid (∀j,ae w j→Calls Tryz.prog 155 #[.pointer (some ⟨sb,0,none⟩),.int .u8 3,.agg #[.int .u8 r.lo.tag,.int .u32 r.lo.to],.int .i64 (r.J+1),.int .i64 x] j fun r w'=>r=.returned (.bool R)∧ae j w'):=aa (fun j z=>by have:=L.out j z;rw[B.out]at this;exact this);go_wp2_with (first|(go_at_call 155;refine(al.out _ kp).mono ?_;rintro am a4 ⟨rfl,a0⟩)|fail)
     go_ret;exact⟨rfl,kp⟩
    ·have ad:Hid (∀j,ae w j→Calls Tryz.prog 155 #[.pointer (some ⟨sb,0,none⟩),.int .u8 3,.agg #[.int .u8 r.hi.tag,.int .u32 r.hi.to],.int .i64 (r.J+1),.int .i64 x] j fun r w'=>r=.returned (.bool R)∧ae j w'):=aa (fun j z=>by have:=L.out j z;rw[B.out]at this;exact this);go_wp2_with (first|(go_at_call 155;refine(ad.out _ kp).mono ?_;rintro am a4 ⟨rfl,a0⟩)|fail)
     go_ret;exact⟨rfl,kp⟩
   ·have s:(f != 3)=true:=(by simp[T]);have q:=fun j=>a8.out j r.J bv (by omega);obtain⟨O,av⟩:∃O,O=ax x r.J:=⟨_,rfl⟩;have I:aT x r=if O then r.hi else r.lo:=(by unfold aT eJ;rw[ag (fun s=>T (a6.out.symm.trans s)),←av]);have B:=aa I;rw[←av]at q;clear I av;cases O
    ·have t:Hid (∀j,Calls Tryz.prog 43 #[.int .i64 x,.int .i64 r.J] j fun r w'=>r=.returned (.int .i64 0)∧j=w'):=aa q;have al:Hid (∀j,ae w j→Calls Tryz.prog 155 #[.pointer (some ⟨sb,0,none⟩),.int .u8 f,.agg #[.int .u8 r.lo.tag,.int .u32 r.lo.to],.int .i64 (r.J+1),.int .i64 x] j fun r w'=>r=.returned (.bool R)∧ae j w'):=aa (fun j z=>by have:=L.out j z;rw[B.out]at this;exact this);clear q;go_wp2_with (first|(go_at_call 43;refine(t.out _).mono ?_;rintro S W ⟨rfl,rfl⟩)|(go_at_call 155;refine(al.out _ kp).mono ?_;rintro am a4 ⟨rfl,a0⟩)|fail)
     go_ret;exact⟨rfl,kp⟩
    ·have t:Hid (∀j,Calls Tryz.prog 43 #[.int .i64 x,.int .i64 r.J] j fun r w'=>r=.returned (.int .i64 1)∧j=w'):=aa q;have ad:Hid (∀j,ae w j→Calls Tryz.prog 155 #[.pointer (some ⟨sb,0,none⟩),.int .u8 f,.agg #[.int .u8 r.hi.tag,.int .u32 r.hi.to],.int .i64 (r.J+1),.int .i64 x] j fun r w'=>r=.returned (.bool R)∧ae j w'):=aa (fun j z=>by have:=L.out j z;rw[B.out]at this;exact this);clear q;go_wp2_with (first|(go_at_call 43;refine(t.out _).mono ?_;rintro S W ⟨rfl,rfl⟩)|(go_at_call 155;refine(ad.out _ kp).mono ?_;rintro am a4 ⟨rfl,a0⟩)|fail)
     go_ret;exact⟨rfl,kp⟩
theorem BK (sb:Nat)(f l x i:Int)(e:Edge)(w:World)(s:e.to=0)
  (q:∀j,ae w j→Calls Tryz.prog 88 #[.pointer (some ⟨sb,0,none⟩),.int .u32 e.to] j fun r w'=>r=.returned (.int .i64 i)∧j=w') :
  Calls Tryz.prog 155 #[.pointer (some ⟨sb,0,none⟩),.int .u8 f,.agg #[.int .u8 e.tag,.int .u32 e.to],.int .i64 l,.int .i64 x] w fun r w'=>r=.returned (.bool false)∧ae w w':=by
 obtain⟨j,a⟩:=e
 dsimp only at s q ⊢
 subst s
 have t:=aa q
 clear q
 go_enter Tryz.func155,Tryz.ntmps155
 go_wp2_with (first|(go_at_call 88;refine(t.out _ kp).mono ?_;rintro j j ⟨rfl,rfl⟩)|fail)
 go_ret
 exact⟨rfl,kp⟩
theorem BH (sb:Nat)(f l n x:Int)(e:Edge)(w:World)(B:sb<w.heap.size)(E:e.to≠0)(t:e.ok)(A:n≤l)(z:w.cell? ⟨sb,3,none⟩=some (.int .i64 n))
  (q:∀j,ae w j→Calls Tryz.prog 88 #[.pointer (some ⟨sb,0,none⟩),.int .u32 e.to] j fun r w'=>r=.returned (.int .i64 (-1))∧j=w') :
  Calls Tryz.prog 155 #[.pointer (some ⟨sb,0,none⟩),.int .u8 f,.agg #[.int .u8 e.tag,.int .u32 e.to],.int .i64 l,.int .i64 x] w fun r w'=>r=.returned (.bool true)∧ae w w':=by
 have j:sb<w.heap.size+1:=by omega
 have s:=aa q
 have j:0<e.to:=by have:=t.2.1;omega
 clear q
 go_enter Tryz.func155,Tryz.ntmps155
 go_wp2_with (first|(go_at_call 88;refine(s.out _ kp).mono ?_;rintro j j ⟨rfl,rfl⟩)|fail)
 all_goals first|(exfalso;omega)|(go_ret;exact⟨rfl,kp⟩)
theorem BL {F:Nat→Prop}{w:World}{sb:Nat}{M:St}{X:List (Int×Rec)}(h:aV F w sb M X)(f x:Int)(aw:1≤f∧f≤5)(a7:0≤x)(a8:x≤65535) :
  ∀(K:Nat) (l:Int) (e:Edge) (j:World),ae w j→e.ok→0≤l→l≤M.n→M.n-l≤(K:Int)→(∀r,look M.cs e.to=some r→r.al=f∧l≤r.I) →
   Calls Tryz.prog 155 #[.pointer (some ⟨sb,0,none⟩),.int .u8 f,.agg #[.int .u8 e.tag,.int .u32 e.to],.int .i64 l,.int .i64 x] j fun r w'=>r=.returned (.bool (hS M f x K l e))∧ae j w':=by
 have am:=h.wf.bw
 have zero:∀(K:Nat) (l:Int) (e:Edge) (j:World),ae w j→e.to=0→Calls Tryz.prog 155 #[.pointer (some ⟨sb,0,none⟩),.int .u8 f,.agg #[.int .u8 e.tag,.int .u32 e.to],.int .i64 l,.int .i64 x] j fun r w'=>r=.returned (.bool (hS M f x K l e))∧ae j w':=by
  intro K l e j t q
  have B:hS M f x K l e=false:=by
   cases K with
   |zero=>exact aY (fun B=>B q)
   |succ K=>show(if e.to=0 then false else _)=false;rw[ah q]
  rw[B];exact BK sb f l x _ e j q (fun s A=>ir (h.ad (t.trans A)) e.to)
 have stop:∀(K:Nat) (l:Int) (e:Edge) (j:World),ae w j→e.to≠0→e.ok→M.n≤l→(∀r,look M.cs e.to=some r→r.al=f∧l≤r.I)→Calls Tryz.prog 155 #[.pointer (some ⟨sb,0,none⟩),.int .u8 f,.agg #[.int .u8 e.tag,.int .u32 e.to],.int .i64 l,.int .i64 x] j fun r w'=>r=.returned (.bool (hS M f x K l e))∧ae j w':=by
  intro K l e j t q E L S
  have B:hS M f x K l e=true:=by
   cases K with
   |zero=>exact bc q
   |succ K=>show(if e.to=0 then false else if M.n≤l then true else _)=true;rw[ag q,ah L]
  rw[B];have z:=h.ad t;refine BH sb f l M.n x e j z.pos q E L z.vars (fun s A=>?_);have J:=ir (z.ad A) e.to;rcases fM h e.to with⟨r,ad,_⟩|⟨_,_,U⟩
  ·have:=(S r ad).2;have:=(h.wf.b6 ad).tb;have:=(h.wf.b6 ad).bn;omega
  ·rw[U]at J;exact J
 intro K
 induction K with
 |zero=>
  intro l e j t E T ad W S;by_cases q:e.to=0;·exact zero 0 l e j t q
  ·exact stop 0 l e j t q E (by omega) S
 |succ K al=>
  intro l e j t E T ad W S;by_cases q:e.to=0;·exact zero (K+1) l e j t q
  ·by_cases L:M.n≤l;·exact stop (K+1) l e j t q E L S
   ·have z:=h.ad t;have J:=fun(s:World) (A:ae j s)=>ir (z.ad A) e.to;have ab:=fun(s:World) (k:Int) (ad:0≤k) (a':k≤16)=>jN x k s a7 a8 ad a';rcases fM z e.to with⟨r,I,D,av,_,ad,U⟩|⟨I,_,U⟩
    ·obtain⟨lb,cap,a1,a4,a5,bb,a3,bd,be,bf,bg,bi⟩:=z.et av;obtain⟨Y,ad⟩:=S r I;have O:r.ok:=h.b0 _ (bB av);have gr:=h.wf.b6 I;rw[U]at J;by_cases Z:l<r.I
     ·have B:hS M f x (K+1) l e=(if aP f e l&&ax x l then false else hS M f x K (l+1) e):=by
       show(if e.to=0 then false else if M.n≤l then true else match look M.cs e.to with|none=>_|some r=>_)=_;rw[ag q,ag L,I];show(if l<r.I then _ else _)=_;rw[ah Z]
      rw[B];exact BG sb f l M.n x e _ _ j z.pos aw q E T (by omega) am z.vars r.I lb D X.length cap O.I.1 O.I.2 Z a1 a4 a5 a3 J (fun s=>ab s l T (by omega)) (fun s A=>al (l+1) e s (t.trans A) E (by omega) (by omega) (by push_cast at W;omega) (fun a6 N=>by rw[I]at N;cases N;exact⟨Y,by omega⟩))
     ·have S:l=r.I:=by omega
      have B:hS M f x (K+1) l e=hS M f x K (r.J+1) (aT x r):=by
       show(if e.to=0 then false else if M.n≤l then true else match look M.cs e.to with|none=>_|some r=>_)=_;rw[ag q,ag L,I];show(if l<r.I then _ else _)=_;rw[ag Z]
      rw[B,S];have Z:=gr.tb;have S:=gr.bn;have a0:=px (x:=x) h.wf I;rw[Y]at a0;exact BJ sb f M.n x e r _ j z.pos Y q E O Z S am z.vars lb D X.length cap a1 a4 a5 bb a3 bd be bf bg bi J ab (fun s A=>al (r.J+1) (aT x r) s (t.trans A) (by unfold aT;split;exact O.hi;exact O.lo) (by have:=O.J.1;omega) (by omega) (by push_cast at W;omega) (fun a6 N=>by obtain⟨a,b,_⟩:=dY a0 N;exact⟨a,b⟩))
    ·rw[U]at J
     have B:hS M f x (K+1) l e=(if aP f e l&&ax x l then false else hS M f x K (l+1) e):=by
      show(if e.to=0 then false else if M.n≤l then true else match look M.cs e.to with|none=>_|some r=>_)=_;rw[ag q,ag L,I]
     rw[B];exact BI sb f l M.n x e _ _ j z.pos aw q E T (by omega) am z.vars J (fun s=>ab s l T (by omega)) (fun s A=>al (l+1) e s (t.trans A) E (by omega) (by omega) (by push_cast at W;omega) (fun a6 N=>by rw[I]at N;cases N))
end Go.Proofs.YtafkamlhimkbmaaGreat
