/-
  Plainly: what an edge of form 4 that was made from below unfolds to is its table's term.
-/
import Derived.Test.YtafkamlhimkbmaaGreatPKPlain
namespace Go.Proofs.YtafkamlhimkbmaaGreat
set_option maxRecDepth 1000000
set_option maxHeartbeats 8000000
set_option linter.unusedSimpArgs false
set_option linter.unusedVariables false
open Go.RowKit
theorem kz {M:St}{l:Int}{lo hi e:Edge}(h:dn 4 M l lo hi e) :
  (hi.to=0∧e=lo)∨(hi.to≠0∧∃r,look M.cs e.to=some r∧r.top=l ∧
   ((lo=hi∧∃x,look M.cs lo.to=some x∧x.top=l+1∧r.J=x.J∧r.lo=x.lo∧r.hi=x.hi) ∨
    ((lo=hi→∀x,look M.cs lo.to=some x→x.top≠l+1)∧r.J=l∧r.lo=lo∧r.hi=hi))):=by
 rcases h.up with s|⟨r,s,J,_⟩
 ·rw[ji]at s;unfold aC bo at s;split at s;·cases s
  ·split at s;·cases s
   ·split at s
    ·rename_i z;cases s;exact .inl ⟨z,rfl⟩
    ·split at s;·cases s
     ·split at s;·split at s<;>cases s
      ·cases s
 ·rw[ji]at s;unfold aC bo at s;split at s;·cases s
  ·split at s;·cases s
   ·split at s;·cases s
    ·rename_i z;refine .inr ⟨z,r,J,?_⟩;split at s
     ·rename_i t;cases s;exact⟨rfl,.inr ⟨fun _ x D=>(by rw[t]at D;cases D),rfl,rfl,rfl⟩⟩
     ·rename_i x t;split at s
      ·rename_i hs;split at s
       ·rename_i u;cases s;exact⟨rfl,.inl ⟨hs,x,t,u,rfl,rfl,rfl⟩⟩
       ·rename_i u;cases s;exact⟨rfl,.inr ⟨fun _ y E=>(by rw[t]at E;cases E;exact u),rfl,rfl,rfl⟩⟩
      ·rename_i hs;cases s;exact⟨rfl,.inr ⟨fun I=>absurd I hs,rfl,rfl,rfl⟩⟩
theorem im {cs:List (Option Rec)}{a:Int}{r:Rec}(h:look cs a=some r):¬a<2:=fun s=>by rw[fq s]at h;cases h
theorem jW {M:St}:∀(k:Nat) (ts:List Bool) (l:Int) (e:Edge),aN 4 M k ts l e→(e.to=0↔bm ts=true):=by
 intro k;induction k with
 |zero=>
  intro ts l e h;obtain⟨b,rfl,rfl⟩:=h;cases b;·exact⟨fun _=>rfl,fun _=>rfl⟩
  ·exact⟨fun s=>(by cases s),fun s=>(by cases s)⟩
 |succ k u=>
  intro ts l e h;obtain⟨_,lo,hi,z,D,E⟩:=h;have a:=u _ _ _ z;have b:=u _ _ _ D;rw[kG (2 ^ k),cA,←a,←b];rcases kz E with⟨t,rfl⟩|⟨t,r,u,_⟩
  ·exact⟨fun s=>⟨s,t⟩,fun s=>s.1⟩
  ·have:=im u;exact⟨fun s=>absurd s (by omega),fun s=>absurd s.2 t⟩
theorem pM {M:St}{k:Nat}{ts:List Bool}{l:Int}{e:Edge}(h:aN 4 M (k+1) ts l e)(D:bm (ts.drop (2 ^ k))=true):aN 4 M k (ts.take (2 ^ k)) (l+1) e:=by
 obtain⟨_,lo,hi,t,u,z⟩:=h;have b:=(jW _ _ _ _ u).2 D;rcases kz z with⟨s,rfl⟩|⟨s,_⟩
 ·exact t
 ·exact absurd b s
theorem yH {M:St}(al:M.wf):∀(k:Nat) (ts:List Bool) (l:Int) (e:Edge),aN 4 M (k+1) ts l e→l+(k+1:Nat)=M.n→bm (ts.drop (2 ^ k))=false →
  ∃r,look M.cs e.to=some r∧r.top=l∧∀c D E,cT k (ts.take (2 ^ k)) (ts.drop (2 ^ k))=(c,D,E)→r.J=l+(k-c:Nat)∧aN 4 M c D (r.J+1) r.lo∧aN 4 M c E (r.J+1) r.hi:=by
 intro k
 induction k with
 |zero=>
  intro ts l e h ab U;obtain⟨_,lo,hi,t,z,Y⟩:=h;rcases kz Y with⟨V,_⟩|⟨V,r,ad,ah,T⟩
  ·rw[(jW _ _ _ _ z).1 V]at U;cases U
  ·refine⟨r,ad,ah,fun c D E X=>?_⟩;have u:(0,ts.take (2 ^ 0),ts.drop (2 ^ 0))=(c,D,E):=X;cases u;rcases T with⟨_,x,Q,_⟩|⟨_,I,J,N⟩
   ·obtain⟨b,_,rfl⟩:=t;exfalso;have:=im Q;cases b;·exact this (show(0:Int)<2 by decide)
    ·exact this (show(1:Int)<2 by decide)
   ·rw[I,J,N];exact⟨by simp,t,z⟩
 |succ k a5=>
  intro ts l e h ab U;have a8:=h.length;obtain⟨_,lo,hi,t,z,Y⟩:=h;have a0:l+1+(k+1:Nat)=M.n:=by push_cast at ab ⊢;omega
  rcases kz Y with⟨V,_⟩|⟨V,r,ad,ah,T⟩
  ·rw[(jW _ _ _ _ z).1 V]at U;cases U
  ·refine⟨r,ad,ah,fun c D E X=>?_⟩;obtain⟨s,av⟩:∃s,s=ts.take (2 ^ (k+1)):=⟨_,rfl⟩;obtain⟨O,aw⟩:∃O,O=ts.drop (2 ^ (k+1)):=⟨_,rfl⟩;rw[←av,←aw]at X;rw[←av]at t;rw[←aw]at z;have u:(if bD s O&&!bm (s.drop (2 ^ k))then cT k (s.take (2 ^ k)) (s.drop (2 ^ k))else(k+1,s,O))=(c,D,E):=X;by_cases hs:lo=hi
   ·subst hs;have Z:s=O:=aN.inj al _ _ _ _ _ t z;subst Z;rw[eX.2 rfl,Bool.true_and]at u;cases W:bm (s.drop (2 ^ k))with
    |true=>
     rw[W]at u;cases u;have a1:=pM t W;rcases T with⟨_,x,Q,a2,_⟩|⟨_,I,J,N⟩
     ·have:=a1.top al (by decide) (by push_cast at ab ⊢;omega) Q;omega
     ·rw[I,J,N];exact⟨by simp,t,t⟩
    |false=>
     rw[W]at u;obtain⟨y,ax,a4,a3⟩:=a5 _ _ _ t a0 W;obtain⟨U,a6,a7⟩:=a3 c D E u
     have U:c≤k:=by
      have:=ns k (s.take (2 ^ k)) (s.drop (2 ^ k));have U:(cT k (s.take (2 ^ k)) (s.drop (2 ^ k))).1=c:=(by rw[show cT k (s.take (2 ^ k)) (s.drop (2 ^ k))=(c,D,E)from u]);omega
     rcases T with⟨_,x,Q,a2,I,J,N⟩|⟨am,_⟩
     ·rw[ax]at Q;cases Q;rw[I,J,N];exact⟨by omega,a6,a7⟩
     ·exact absurd a4 (am rfl y ax)
   ·have Z:bD s O=false:=jq.2 (fun ay=>hs (by subst ay;exact aN.cD al _ _ _ _ _ t z));rw[Z]at u;cases u;rcases T with⟨am,_⟩|⟨_,I,J,N⟩
    ·exact absurd am hs
    ·rw[I,J,N];exact⟨by simp,t,z⟩
theorem jG:bH 0=⟨#[48]⟩:=by decide
theorem ki:bH 1=⟨#[49]⟩:=by decide
theorem gW {f:Int}{M:St}{n:Nat}{e:Edge}(s:f≠5)(h:e.to<2):bW f M (n+1) e=bH e.to:=by
 show(if f=5 then _ else if e.to<2 then _ else _)=_;rw[ag s,ai h]
theorem qm {f:Int}{M:St}{n:Nat}{e:Edge}{r:Rec}(s:f=3∨f=4)(h:look M.cs e.to=some r) :
  bW f M (n+1) e=⟨#[40]⟩++bH r.top++⟨#[58]⟩++bH r.J++⟨#[32]⟩++bW f M n r.lo++⟨#[32]⟩++bW f M n r.hi++⟨#[41]⟩:=by
 show(if f=5 then _ else if e.to<2 then _ else if f=3∨f=4 then _ else _)=_
 rw[ag (by omega),ag (im h),ai s,h]
 rfl
theorem zT {M:St}(W:M.wf):∀(k:Nat) (ts:List Bool) (l:Int) (e:Edge),aN 4 M k ts l e→l+(k:Nat)=M.n→∀m n,k≤m→k≤n→bW 4 M (m+1) e=gU (n+1) k ts l:=by
 intro k;induction k using Nat.strongRecOn with
 |ind k z=>
  intro ts l e h s m n hm T;cases k with
  |zero=>
   obtain⟨b,rfl,rfl⟩:=h;cases b;·exact(gW (by decide) (show(0:Int)<2 by decide)).trans jG
   ·exact(gW (by decide) (show(1:Int)<2 by decide)).trans ki
  |succ k=>
   have u:gU (n+1) (k+1) ts l=(if bm ts then⟨#[48]⟩else if bm (ts.drop (2 ^ k))then gU n k (ts.take (2 ^ k)) (l+1)
    else⟨#[40]⟩++bH l++⟨#[58]⟩++bH (l+(k-(cT k (ts.take (2 ^ k)) (ts.drop (2 ^ k))).1:Nat))++⟨#[32]⟩++gU n (cT k (ts.take (2 ^ k)) (ts.drop (2 ^ k))).1 (cT k (ts.take (2 ^ k)) (ts.drop (2 ^ k))).2.1 (l+(k-(cT k (ts.take (2 ^ k)) (ts.drop (2 ^ k))).1:Nat)+1)++⟨#[32]⟩++gU n (cT k (ts.take (2 ^ k)) (ts.drop (2 ^ k))).1 (cT k (ts.take (2 ^ k)) (ts.drop (2 ^ k))).2.2 (l+(k-(cT k (ts.take (2 ^ k)) (ts.drop (2 ^ k))).1:Nat)+1)++⟨#[41]⟩):=rfl
   rw[u];by_cases u:e.to=0
   ·rw[ai ((jW _ _ _ _ h).1 u),gW (by decide) (by omega),u];exact jG
   ·rw[ag (fun T=>u ((jW _ _ _ _ h).2 T))];obtain⟨n,rfl⟩:∃u,n=u+1:=⟨n-1,by omega⟩;cases J:bm (ts.drop (2 ^ k))with
    |true=>
     rw[ai rfl];exact z k (by omega) _ _ _ (pM h J) (by push_cast at s ⊢;omega) m n (by omega) (by omega)
    |false=>
     rw[ag (by decide)];obtain⟨r,U,V,Q⟩:=yH W k ts l e h s J;obtain⟨c,D,E,t⟩:∃c D E,cT k (ts.take (2 ^ k)) (ts.drop (2 ^ k))=(c,D,E):=⟨_,_,_,rfl⟩;obtain⟨I,N,O⟩:=Q c D E t
     have u:c≤k:=by
      have:=ns k (ts.take (2 ^ k)) (ts.drop (2 ^ k));rw[t]at this;exact this
     obtain⟨m,rfl⟩:∃u,m=u+1:=⟨m-1,by omega⟩;rw[t,qm (.inr rfl) U];have t:r.J+1+(c:Nat)=M.n:=(by rw[I];push_cast at s ⊢;omega);rw[z c (by omega) _ _ _ N t m n (by omega) (by omega),z c (by omega) _ _ _ O t m n (by omega) (by omega),V,I]
theorem qn {f:Int}{M:St}{n:Nat}{e:Edge}{r:Rec}(s:f=1∨f=2)(h:look M.cs e.to=some r) :
  bW f M (n+1) e=⟨#[40]⟩++bH r.top++⟨#[32]⟩++bW f M n r.lo++⟨#[32]⟩++bW f M n r.hi++⟨#[41]⟩:=by
 show(if f=5 then _ else if e.to<2 then _ else if f=3∨f=4 then _ else _)=_
 rw[ag (by omega),ag (im h),ag (by omega),h]
 rfl
theorem vn {M:St}{l:Int}{lo hi e:Edge}(h:dn 1 M l lo hi e) :
  (lo=hi∧e=lo)∨(lo≠hi∧∃r,look M.cs e.to=some r∧r.top=l∧r.lo=lo∧r.hi=hi):=by
 rcases h.up with s|⟨r,s,u,_⟩
 ·rw[gN]at s;unfold aC cK at s;split at s;·cases s
  ·split at s;·cases s
   ·split at s
    ·rename_i t;cases s;exact .inl ⟨t,rfl⟩
    ·cases s
 ·rw[gN]at s;unfold aC cK at s;split at s;·cases s
  ·split at s;·cases s
   ·split at s;·cases s
    ·rename_i t;cases s;exact .inr ⟨t,_,u,rfl,rfl,rfl⟩
theorem oG {M:St}{l:Int}{lo hi e:Edge}(h:dn 2 M l lo hi e) :
  (hi.to=0∧e=lo)∨(hi.to≠0∧∃r,look M.cs e.to=some r∧r.top=l∧r.lo=lo∧r.hi=hi):=by
 rcases h.up with s|⟨r,s,u,_⟩
 ·rw[gO]at s;unfold aC cO at s;split at s;·cases s
  ·split at s;·cases s
   ·split at s
    ·rename_i t;cases s;exact .inl ⟨t,rfl⟩
    ·cases s
 ·rw[gO]at s;unfold aC cO at s;split at s;·cases s
  ·split at s;·cases s
   ·split at s;·cases s
    ·rename_i t;cases s;exact .inr ⟨t,_,u,rfl,rfl,rfl⟩
theorem zQ {M:St}(z:M.wf):∀(k:Nat) (ts:List Bool) (l:Int) (e:Edge),aN 1 M k ts l e→∀m,k≤m→bW 1 M (m+1) e=gS k ts l:=by
 intro k;induction k with
 |zero=>
  intro ts l e h m hm;obtain⟨b,rfl,rfl⟩:=h;cases b;·exact(gW (by decide) (show(0:Int)<2 by decide)).trans jG
  ·exact(gW (by decide) (show(1:Int)<2 by decide)).trans ki
 |succ k u=>
  intro ts l e h m hm;have E:gS (k+1) ts l=(if bD (ts.take (2 ^ k)) (ts.drop (2 ^ k))then gS k (ts.take (2 ^ k)) (l+1)else⟨#[40]⟩++bH l++⟨#[32]⟩++gS k (ts.take (2 ^ k)) (l+1)++⟨#[32]⟩++gS k (ts.drop (2 ^ k)) (l+1)++⟨#[41]⟩):=rfl;rw[E];obtain⟨_,lo,hi,s,t,D⟩:=h;rcases vn D with⟨rfl,rfl⟩|⟨Q,r,I,J,N,O⟩
  ·rw[ai (eX.2 (aN.inj z _ _ _ _ _ s t))];exact u _ _ _ s m (by omega)
  ·have E:bD (ts.take (2 ^ k)) (ts.drop (2 ^ k))=false:=jq.2 (fun D=>Q (by rw[D]at s;exact aN.cD z _ _ _ _ _ s t));rw[E,ag (by decide)];obtain⟨m,rfl⟩:∃z,m=z+1:=⟨m-1,by omega⟩;rw[qn (.inl rfl) I,J,N,O,u _ _ _ s m (by omega),u _ _ _ t m (by omega)]
theorem qG {M:St}:∀(k:Nat) (ts:List Bool) (l:Int) (e:Edge),aN 2 M k ts l e→(e.to=0↔bm ts=true):=by
 intro k;induction k with
 |zero=>
  intro ts l e h;obtain⟨b,rfl,rfl⟩:=h;cases b;·exact⟨fun _=>rfl,fun _=>rfl⟩
  ·exact⟨fun s=>(by cases s),fun s=>(by cases s)⟩
 |succ k u=>
  intro ts l e h;obtain⟨_,lo,hi,z,D,E⟩:=h;have a:=u _ _ _ z;have b:=u _ _ _ D;rw[kG (2 ^ k),cA,←a,←b];rcases oG E with⟨t,rfl⟩|⟨t,r,u,_⟩
  ·exact⟨fun s=>⟨s,t⟩,fun s=>s.1⟩
  ·have:=im u;exact⟨fun s=>absurd s (by omega),fun s=>absurd s.2 t⟩
theorem zR {M:St}:∀(k:Nat) (ts:List Bool) (l:Int) (e:Edge),aN 2 M k ts l e→∀m,k≤m→bW 2 M (m+1) e=gV k ts l:=by
 intro k;induction k with
 |zero=>
  intro ts l e h m hm;obtain⟨b,rfl,rfl⟩:=h;cases b;·exact(gW (by decide) (show(0:Int)<2 by decide)).trans jG
  ·exact(gW (by decide) (show(1:Int)<2 by decide)).trans ki
 |succ k t=>
  intro ts l e h m hm;have I:gV (k+1) ts l=(if bm (ts.drop (2 ^ k))then gV k (ts.take (2 ^ k)) (l+1)else⟨#[40]⟩++bH l++⟨#[32]⟩++gV k (ts.take (2 ^ k)) (l+1)++⟨#[32]⟩++gV k (ts.drop (2 ^ k)) (l+1)++⟨#[41]⟩):=rfl;rw[I];obtain⟨_,lo,hi,z,s,D⟩:=h;rcases oG D with⟨u,rfl⟩|⟨u,r,E,J,N,O⟩
  ·rw[ai ((qG _ _ _ _ s).1 u)];exact t _ _ _ z m (by omega)
  ·rw[ag (fun D=>u ((qG _ _ _ _ s).2 D))];obtain⟨m,rfl⟩:∃u,m=u+1:=⟨m-1,by omega⟩;rw[qn (.inr rfl) E,J,N,O,t _ _ _ z m (by omega),t _ _ _ s m (by omega)]
theorem mh {M:St}{l:Int}{lo hi e:Edge}(h:dn 3 M l lo hi e) :
  (lo=hi∧e=lo)∨(lo≠hi∧∃r,look M.cs e.to=some r∧r.top=l ∧
   ((∃x,look M.cs lo.to=some x∧x.top=l+1∧x.hi=hi∧r.J=x.J∧r.lo=x.lo∧r.hi=hi) ∨
    ((∀x,look M.cs lo.to=some x→x.top=l+1→x.hi≠hi)∧r.J=l∧r.lo=lo∧r.hi=hi))):=by
 rcases h.up with s|⟨r,s,I,_⟩
 ·rw[jh]at s;unfold aC bk at s;split at s;·cases s
  ·split at s;·cases s
   ·split at s
    ·rename_i D;cases s;exact .inl ⟨D,rfl⟩
    ·split at s;·cases s
     ·split at s;·split at s<;>cases s
      ·cases s
 ·rw[jh]at s;unfold aC bk at s;split at s;·cases s
  ·split at s;·cases s
   ·split at s;·cases s
    ·rename_i D;refine .inr ⟨D,r,I,?_⟩;split at s
     ·rename_i t;cases s;exact⟨rfl,.inr ⟨fun x E=>(by rw[t]at E;cases E),rfl,rfl,rfl⟩⟩
     ·rename_i x t;split at s
      ·rename_i z;split at s
       ·rename_i hs;cases s;exact⟨rfl,.inl ⟨x,t,z,hs,rfl,rfl,rfl⟩⟩
       ·rename_i hs;cases s;exact⟨rfl,.inr ⟨fun y u _=>(by rw[t]at u;cases u;exact hs),rfl,rfl,rfl⟩⟩
      ·rename_i z;cases s;exact⟨rfl,.inr ⟨fun y u J=>(by rw[t]at u;cases u;exact absurd J z),rfl,rfl,rfl⟩⟩
theorem jS {M:St}(z:M.wf){k:Nat}{ts:List Bool}{l:Int}{e:Edge}(h:aN 3 M (k+1) ts l e)(hs:ts.take (2 ^ k)=ts.drop (2 ^ k)):aN 3 M k (ts.take (2 ^ k)) (l+1) e:=by
 obtain⟨_,lo,hi,s,t,u⟩:=h;have:lo=hi:=aN.cD z _ _ _ _ _ s (hs ▸ t);rcases mh u with⟨_,rfl⟩|⟨q,_⟩
 ·exact s
 ·exact absurd this q
theorem nD {M:St}(D:M.wf):∀(k:Nat) (lo hi:List Bool) (l:Int) (e:Edge) (c:Nat) (u t:List Bool),cL k lo hi=(c,u,t)→aN 3 M k hi l e→aN 3 M c t (l+(k-c:Nat)) e:=by
 intro k;induction k with
 |zero=>
  intro lo hi l e c u t z h;have s:(0,lo,hi)=(c,u,t):=z;cases s;simpa using h
 |succ k E=>
  intro lo hi l e c u t z h;have s:(if !bD (lo.take (2 ^ k)) (lo.drop (2 ^ k))&&bD (hi.take (2 ^ k)) (hi.drop (2 ^ k))&&bD (hi.take (2 ^ k)) (lo.drop (2 ^ k))then cL k (lo.take (2 ^ k)) (lo.drop (2 ^ k))else(k+1,lo,hi))=(c,u,t):=z;split at s
  ·rename_i t;rw[cA,cA]at t;have u:=eX.1 t.1.2;have z:=eX.1 t.2;have t:=jS D h u;rw[z]at t;have u:=E _ _ _ _ _ _ _ s t
   have t:c≤k:=by
    have:=ke k (lo.take (2 ^ k)) (lo.drop (2 ^ k));rw[s]at this;exact this
   rwa[show l+1+((k-c:Nat):Int)=l+((k+1-c:Nat):Int) by omega]at u
  ·cases s;simpa using h
theorem yG {M:St}(u:M.wf):∀(k:Nat) (ts:List Bool) (l:Int) (e:Edge),aN 3 M (k+1) ts l e→l+(k+1:Nat)=M.n→ts.take (2 ^ k)≠ts.drop (2 ^ k) →
  ∃r,look M.cs e.to=some r∧r.top=l∧∀c J N,cL k (ts.take (2 ^ k)) (ts.drop (2 ^ k))=(c,J,N)→r.J=l+(k-c:Nat)∧aN 3 M c J (r.J+1) r.lo∧aN 3 M c N (r.J+1) r.hi:=by
 intro k
 induction k with
 |zero=>
  intro ts l e h al am;obtain⟨_,lo,hi,z,D,ad⟩:=h;rcases mh ad with⟨rfl,_⟩|⟨bw,r,aw,ax,W⟩
  ·exact absurd (aN.inj u _ _ _ _ _ z D) am
  ·refine⟨r,aw,ax,fun c J N Y=>?_⟩;have E:(0,ts.take (2 ^ 0),ts.drop (2 ^ 0))=(c,J,N):=Y;cases E;rcases W with⟨x,I,_⟩|⟨_,O,Q,T⟩
   ·obtain⟨b,_,rfl⟩:=z;exfalso;have:=im I;cases b;·exact this (show(0:Int)<2 by decide)
    ·exact this (show(1:Int)<2 by decide)
   ·rw[O,Q,T];exact⟨by simp,z,D⟩
 |succ k ba=>
  intro ts l e h al am;obtain⟨_,lo,hi,z,D,ad⟩:=h;have a6:l+1+(k+1:Nat)=M.n:=by push_cast at al ⊢;omega
  have a7:l+1+1+(k:Nat)=M.n:=by push_cast at al ⊢;omega
  rcases mh ad with⟨rfl,_⟩|⟨bw,r,aw,ax,W⟩
  ·exact absurd (aN.inj u _ _ _ _ _ z D) am
  ·refine⟨r,aw,ax,fun c J N Y=>?_⟩;obtain⟨s,a4⟩:∃s,s=ts.take (2 ^ (k+1)):=⟨_,rfl⟩;obtain⟨t,a5⟩:∃t,t=ts.drop (2 ^ (k+1)):=⟨_,rfl⟩;rw[←a4,←a5]at Y;rw[←a4]at z;rw[←a5]at D;have E:(if !bD (s.take (2 ^ k)) (s.drop (2 ^ k))&&bD (t.take (2 ^ k)) (t.drop (2 ^ k))&&bD (t.take (2 ^ k)) (s.drop (2 ^ k))then cL k (s.take (2 ^ k)) (s.drop (2 ^ k))else(k+1,s,t))=(c,J,N):=Y;by_cases hs:s.take (2 ^ k)=s.drop (2 ^ k)
   ·rw[eX.2 hs]at E;cases E;have bn:=jS u z hs;rcases W with⟨x,I,a9,_⟩|⟨_,O,Q,T⟩
    ·have:=bn.top u (by decide) a7 I;omega
    ·rw[O,Q,T];exact⟨by simp,z,D⟩
   ·obtain⟨y,ay,bt,a'⟩:=ba _ _ _ z a6 hs;rw[jq.2 hs]at E;by_cases V:t.take (2 ^ k)=t.drop (2 ^ k)∧t.take (2 ^ k)=s.drop (2 ^ k)
    ·rw[eX.2 V.1,eX.2 V.2]at E;have X:cL k (s.take (2 ^ k)) (s.drop (2 ^ k))=(c,J,N):=E;obtain⟨a2,bb,a3⟩:=a' c J N X
     have be:c≤k:=by
      have:=ke k (s.take (2 ^ k)) (s.drop (2 ^ k));rw[X]at this;exact this
     have g1:=jS u D V.1;rw[V.2]at g1;have U:=nD u _ _ _ _ _ _ _ _ X g1;have Z:l+1+1+((k-c:Nat):Int)=y.J+1:=(by rw[a2];omega);rw[Z]at U;have bi:y.hi=hi:=aN.cD u _ _ _ _ _ a3 U;rcases W with⟨x,I,a9,a8,O,Q,T⟩|⟨bv,_⟩
     ·rw[ay]at I;cases I;rw[O,Q,T];exact⟨by omega,bb,U⟩
     ·exact absurd bi (bv y ay bt)
    ·have X:(k+1,s,t)=(c,J,N):=by
      have:(!false&&bD (t.take (2 ^ k)) (t.drop (2 ^ k))&&bD (t.take (2 ^ k)) (s.drop (2 ^ k)))=false:=by
       rw[Bool.not_false,Bool.true_and];cases bc:bD (t.take (2 ^ k)) (t.drop (2 ^ k))with
       |false=>rfl
       |true=>
        rw[Bool.true_and];cases bd:bD (t.take (2 ^ k)) (s.drop (2 ^ k))with
        |false=>rfl
        |true=>exact absurd ⟨eX.1 bc,eX.1 bd⟩ V
      rw[this]at E;exact E
     rcases W with⟨x,I,a9,a8,O,Q,T⟩|⟨_,O,Q,T⟩
     ·exfalso;rw[ay]at I;cases I;obtain⟨d,a0,a1,ah⟩:∃c a0 a1,cL k (s.take (2 ^ k)) (s.drop (2 ^ k))=(c,a0,a1):=⟨_,_,_,rfl⟩;obtain⟨a2,bb,a3⟩:=a' d a0 a1 ah
      have be:d≤k:=by
       have:=ke k (s.take (2 ^ k)) (s.drop (2 ^ k));rw[ah]at this;exact this
      obtain⟨_,E,s,_,ab,_⟩:=id z;have U:=nD u _ _ _ _ _ _ _ _ ah ab;have Z:l+1+1+((k-d:Nat):Int)=y.J+1:=(by rw[a2];omega);rw[Z]at U;have bh:s=hi:=(aN.cD u _ _ _ _ _ U a3).trans a8;subst bh;by_cases av:t.take (2 ^ k)=t.drop (2 ^ k);·exact V ⟨av,aN.inj u _ _ _ _ _ (jS u D av) ab⟩
      ·obtain⟨v,s,t,_⟩:=ba _ _ _ D a6 av;have:=ab.top u (by decide) a7 s;omega
     ·cases X;rw[O,Q,T];exact⟨by simp,z,D⟩
theorem zS {M:St}(J:M.wf):∀(k:Nat) (ts:List Bool) (l:Int) (e:Edge),aN 3 M k ts l e→l+(k:Nat)=M.n→∀m n,k≤m→k≤n→bW 3 M (m+1) e=gT (n+1) k ts l:=by
 intro k;induction k using Nat.strongRecOn with
 |ind k u=>
  intro ts l e h s m n hm W;cases k with
  |zero=>
   obtain⟨b,rfl,rfl⟩:=h;cases b;·exact(gW (by decide) (show(0:Int)<2 by decide)).trans jG
   ·exact(gW (by decide) (show(1:Int)<2 by decide)).trans ki
  |succ k=>
   have U:gT (n+1) (k+1) ts l=(if bD (ts.take (2 ^ k)) (ts.drop (2 ^ k))then gT n k (ts.take (2 ^ k)) (l+1)
    else⟨#[40]⟩++bH l++⟨#[58]⟩++bH (l+(k-(cL k (ts.take (2 ^ k)) (ts.drop (2 ^ k))).1:Nat))++⟨#[32]⟩++gT n (cL k (ts.take (2 ^ k)) (ts.drop (2 ^ k))).1 (cL k (ts.take (2 ^ k)) (ts.drop (2 ^ k))).2.1 (l+(k-(cL k (ts.take (2 ^ k)) (ts.drop (2 ^ k))).1:Nat)+1)++⟨#[32]⟩++gT n (cL k (ts.take (2 ^ k)) (ts.drop (2 ^ k))).1 (cL k (ts.take (2 ^ k)) (ts.drop (2 ^ k))).2.2 (l+(k-(cL k (ts.take (2 ^ k)) (ts.drop (2 ^ k))).1:Nat)+1)++⟨#[41]⟩):=rfl
   rw[U];obtain⟨n,rfl⟩:∃U,n=U+1:=⟨n-1,by omega⟩;cases I:bD (ts.take (2 ^ k)) (ts.drop (2 ^ k))with
   |true=>
    rw[ai rfl];exact u k (by omega) _ _ _ (jS J h (eX.1 I)) (by push_cast at s ⊢;omega) m n (by omega) (by omega)
   |false=>
    rw[ag (by decide)];obtain⟨r,T,V,Q⟩:=yG J k ts l e h s (jq.1 I);obtain⟨c,z,D,t⟩:∃c z D,cL k (ts.take (2 ^ k)) (ts.drop (2 ^ k))=(c,z,D):=⟨_,_,_,rfl⟩;obtain⟨E,N,O⟩:=Q c z D t
    have z:c≤k:=by
     have:=ke k (ts.take (2 ^ k)) (ts.drop (2 ^ k));rw[t]at this;exact this
    obtain⟨m,rfl⟩:∃z,m=z+1:=⟨m-1,by omega⟩;rw[t,qm (.inl rfl) T];have t:r.J+1+(c:Nat)=M.n:=(by rw[E];push_cast at s ⊢;omega);rw[u c (by omega) _ _ _ N t m n (by omega) (by omega),u c (by omega) _ _ _ O t m n (by omega) (by omega),V,E]
theorem oH {M:St}{l:Int}{lo hi e:Edge}(h:dn 5 M l lo hi e) :
  (lo=hi∧e=lo)∨(lo≠hi∧hi.to=0∧lo.tag=l+1∧e=⟨l,lo.to⟩)∨(lo≠hi∧¬(hi.to=0∧lo.tag=l+1)∧e.tag=l∧∃r,look M.cs e.to=some r∧r.top=l∧r.lo=lo∧r.hi=hi):=by
 rcases h.up with s|⟨r,s,z,D⟩
 ·rw[iN]at s;unfold bR at s;split at s;·cases s
  ·split at s;·cases s
   ·split at s
    ·rename_i t;cases s;exact .inl ⟨t,rfl⟩
    ·rename_i t;split at s
     ·rename_i u;cases s;exact .inr (.inl ⟨t,u.1,u.2,rfl⟩)
     ·cases s
 ·rw[iN]at s;unfold bR at s;split at s;·cases s
  ·split at s;·cases s
   ·split at s;·cases s
    ·rename_i t;split at s;·cases s
     ·rename_i u;cases s;exact .inr (.inr ⟨t,u,D,_,z,rfl,rfl,rfl⟩)
theorem m9 {M:St}:∀(k:Nat) (ts:List Bool) (l:Int) (e:Edge),aN 5 M k ts l e→(bm ts=true→e=⟨0,0⟩)∧(e.to=0→bm ts=true):=by
 intro k;induction k with
 |zero=>
  intro ts l e h;obtain⟨b,rfl,rfl⟩:=h;cases b;·exact⟨fun _=>rfl,fun _=>rfl⟩
  ·exact⟨fun s=>(by cases s),fun s=>(by cases s)⟩
 |succ k u=>
  intro ts l e h;obtain⟨_,lo,hi,D,E,I⟩:=h;have a:=u _ _ _ D;have b:=u _ _ _ E;rw[kG (2 ^ k),cA];rcases oH I with⟨rfl,rfl⟩|⟨t,z,J,rfl⟩|⟨t,z,J,r,u,_⟩
  ·exact⟨fun s=>a.1 s.1,fun s=>⟨a.2 s,b.2 s⟩⟩
  ·refine⟨fun s=>absurd ((a.1 s.1).trans (b.1 s.2).symm) t,fun s=>⟨a.2 s,b.2 z⟩⟩
  ·have:=im u;exact⟨fun s=>absurd ((a.1 s.1).trans (b.1 s.2).symm) t,fun s=>absurd s (by omega)⟩
theorem pR:∀(k:Nat) (ts:List Bool),ij k ts=false→cr k ts=(k,ts):=by
 intro k ts h;cases k with
 |zero=>rfl
 |succ k=>
  have s:bD (ts.take (2 ^ k)) (ts.drop (2 ^ k))=false:=h;show(if bD (ts.take (2 ^ k)) (ts.drop (2 ^ k))=true then _ else _)=_;rw[s];rfl
theorem yZ {k:Nat}{ts:List Bool}(h:ij k ts=true):(cr k ts).1<k:=by
 cases k with
 |zero=>cases h
 |succ k=>
  have s:bD (ts.take (2 ^ k)) (ts.drop (2 ^ k))=true:=h
  have:cr (k+1) ts=cr k (ts.take (2 ^ k)):=by
   show(if bD (ts.take (2 ^ k)) (ts.drop (2 ^ k))=true then _ else _)=_;rw[ai s]
  rw[this];have:=mL k (ts.take (2 ^ k));omega
theorem yI {M:St}(al:M.wf):∀(k:Nat) (ts:List Bool) (l:Int) (e:Edge),aN 5 M k ts l e→0≤l→bm ts=false →
  e.tag=l+(k-(cr k ts).1:Nat)∧∀c t,fx (cr k ts).1 (cr k ts).2=(c,t) →
   (c=0→e.to=1)∧∀z,c=z+1→∃r,look M.cs e.to=some r∧r.top=l+(k-c:Nat)∧aN 5 M z (t.take (2 ^ z)) (r.top+1) r.lo∧aN 5 M z (t.drop (2 ^ z)) (r.top+1) r.hi:=by
 intro k
 induction k with
 |zero=>
  intro ts l e h h0 ad;obtain⟨b,rfl,rfl⟩:=h;cases b;·cases ad
  ·refine⟨by show l=l+((0-0:Nat):Int);simp,fun c t E=>?_⟩;have I:(0,[true])=(c,t):=E;cases I;exact⟨fun _=>rfl,fun z Q=>by omega⟩
 |succ k am=>
  intro ts l e h h0 ad;have h:=id h;obtain⟨_,lo,hi,D,J,bb⟩:=id h;have ba:=m9 _ _ _ _ D;have Z:=m9 _ _ _ _ J;obtain⟨s,V⟩:∃s,s=ts.take (2 ^ k):=⟨_,rfl⟩;obtain⟨u,W⟩:∃u,u=ts.drop (2 ^ k):=⟨_,rfl⟩;have O:(bm s&&bm u)=false:=by rw[V,W,←kG];exact ad
  have hS:cr (k+1) ts=(if bD s u then cr k s else(k+1,ts)):=by rw[V,W];rfl
  have a5:fx (k+1) ts=(if bm u&&!ij k s then fx k s else(k+1,ts)):=by rw[V,W];rfl
  have a8:ts.take (2 ^ k)=s:=V.symm;have a9:ts.drop (2 ^ k)=u:=W.symm;rw[a8]at D ba;rw[a9]at J Z;have V:=mL k s;rcases oH bb with⟨rfl,rfl⟩|⟨a4,ay,a',rfl⟩|⟨a4,ay,a',r,be,ah,bi,bh⟩
  ·have N:s=u:=aN.inj al _ _ _ _ _ D J;rw[←N,Bool.and_self]at O;obtain⟨T,Y⟩:=am _ _ _ D (by omega) O;rw[hS,eX.2 N,ai rfl];refine⟨by rw[T];omega,fun c t E=>?_⟩;obtain⟨av,aw⟩:=Y c t E
   have bc:c≤(cr k s).1:=by
    have:=mM (cr k s).1 (cr k s).2;rw[E]at this;exact this
   refine⟨av,fun z Q=>?_⟩;obtain⟨r,a0,a1,a2,a3⟩:=aw z Q;exact⟨r,a0,by rw[a1];omega,a2,a3⟩
  ·have N:s≠u:=fun X=>a4 (by subst X;exact aN.cD al _ _ _ _ _ D J);have U:bm u=true:=Z.2 ay;have ax:bm s=false:=(by rw[U,Bool.and_true]at O;exact O);obtain⟨T,Y⟩:=am _ _ _ D (by omega) ax
   have a6:ij k s=false:=by
    cases ab:ij k s with
    |false=>rfl
    |true=>
     have:=yZ ab;omega
   rw[pR k s a6]at Y;rw[hS,jq.2 N,ag (by decide)];refine⟨by show l=_;simp,fun c t E=>?_⟩;have I:fx (k+1) ts=(c,t):=E;rw[a5,U,a6]at I;have a7:fx k s=(c,t):=I;obtain⟨av,aw⟩:=Y c t a7
   have bc:c≤k:=by
    have:=mM k s;rw[a7]at this;exact this
   refine⟨av,fun z Q=>?_⟩;obtain⟨r,a0,a1,a2,a3⟩:=aw z Q;exact⟨r,a0,by rw[a1];omega,a2,a3⟩
  ·have N:s≠u:=fun X=>a4 (by subst X;exact aN.cD al _ _ _ _ _ D J);rw[hS,jq.2 N,ag (by decide)];refine⟨by rw[a'];simp,fun c t E=>?_⟩;have I:fx (k+1) ts=(c,t):=E
   have bd:(bm u&&!ij k s)=false:=by
    cases U:bm u with
    |false=>rfl
    |true=>
     have ax:bm s=false:=(by rw[U,Bool.and_true]at O;exact O);cases ab:ij k s with
     |true=>rfl
     |false=>
      exfalso;obtain⟨T,_⟩:=am _ _ _ D (by omega) ax;rw[pR k s ab]at T;exact ay ⟨by rw[Z.1 U],by rw[T];simp⟩
   rw[a5,bd]at I;cases I;refine⟨fun X=>by omega,fun z Q=>?_⟩;obtain rfl:k=z:=(by omega);refine⟨r,be,by rw[ah];simp,?_,?_⟩;·rw[ah,bi,a8];exact D
   ·rw[ah,bh,a9];exact J
theorem zX {M:St}{n:Nat}{e:Edge}(h:e.to=0):bW 5 M (n+1) e=⟨#[48]⟩:=by
 show(if(5:Int)=5 then(if e.to=0 then _ else _)else _)=_;rw[ai (by decide),ai h]
theorem zY {M:St}{n:Nat}{e:Edge}(h:e.to=1):bW 5 M (n+1) e=bH e.tag++⟨#[64]⟩++⟨#[49]⟩:=by
 show(if(5:Int)=5 then(if e.to=0 then _ else if e.to=1 then _ else _)else _)=_;rw[ai (by decide),ag (by omega),ai h]
theorem zW {M:St}{n:Nat}{e:Edge}{r:Rec}(h:look M.cs e.to=some r) :
  bW 5 M (n+1) e=bH e.tag++⟨#[64]⟩++⟨#[40]⟩++bH r.top++⟨#[32]⟩++bW 5 M n r.lo++⟨#[32]⟩++bW 5 M n r.hi++⟨#[41]⟩:=by
 have:=im h
 show(if(5:Int)=5 then(if e.to=0 then _ else if e.to=1 then _ else _)else _)=_
 rw[ai (by decide),ag (by omega),ag (by omega),h]
 rfl
theorem zU {M:St}(J:M.wf):∀(k:Nat) (ts:List Bool) (l:Int) (e:Edge),aN 5 M k ts l e→l+(k:Nat)=M.n→0≤l→∀m n,k≤m→k≤n→bW 5 M (m+1) e=iS (n+1) k ts l:=by
 intro k;induction k using Nat.strongRecOn with
 |ind k z=>
  intro ts l e h X h0 m n hm X
  have I:iS (n+1) k ts l=(if bm ts then⟨#[48]⟩else
   match fx (cr k ts).1 (cr k ts).2 with
   |(0,_)=>bH (l+(k-(cr k ts).1:Nat))++⟨#[64]⟩++⟨#[49]⟩
   |(c+1,s)=>bH (l+(k-(cr k ts).1:Nat))++⟨#[64]⟩++⟨#[40]⟩++bH (l+(k-(c+1):Nat))++⟨#[32]⟩++iS n c (s.take (2 ^ c)) (l+(k-c:Nat))++⟨#[32]⟩++iS n c (s.drop (2 ^ c)) (l+(k-c:Nat))++⟨#[41]⟩):=rfl
  rw[I];have N:=m9 _ _ _ _ h;cases u:bm ts with
  |true=>rw[ai rfl];exact zX (by rw[N.1 u])
  |false=>
   rw[ag (by decide)];obtain⟨E,W⟩:=yI J k ts l e h h0 u;obtain⟨c,s,t⟩:∃c s,fx (cr k ts).1 (cr k ts).2=(c,s):=⟨_,_,rfl⟩;obtain⟨O,Q⟩:=W c s t;have s:=mL k ts
   have s:c≤(cr k ts).1:=by
    have:=mM (cr k ts).1 (cr k ts).2;rw[t]at this;exact this
   rw[t];cases c with
   |zero=>
    simp only[];rw[zY (O rfl),E]
   |succ c=>
    simp only[];obtain⟨r,T,D,U,V⟩:=Q c rfl;obtain⟨m,rfl⟩:∃s,m=s+1:=⟨m-1,by omega⟩;obtain⟨n,rfl⟩:∃s,n=s+1:=⟨n-1,by omega⟩;have s:r.top+1+(c:Nat)=M.n:=(by rw[D];omega);rw[zW T,z c (by omega) _ _ _ U s (by omega) m n (by omega) (by omega),z c (by omega) _ _ _ V s (by omega) m n (by omega) (by omega),E,D];rw[show l+((k-(c+1):Nat):Int)+1=l+((k-c:Nat):Int) by omega]
end Go.Proofs.YtafkamlhimkbmaaGreat
