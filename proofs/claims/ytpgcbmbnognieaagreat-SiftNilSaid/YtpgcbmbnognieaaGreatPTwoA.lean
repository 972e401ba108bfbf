/-
  Plainly: what an edge of form 4 that was made from below unfolds to is its table's term.
-/
import Derived.Test.YtpgcbmbnognieaaGreatPKPlain
import Derived.Test.YtpgcbmbnognieaaGreatPTermA
namespace Go.Proofs.YtpgcbmbnognieaaGreat
set_option maxRecDepth 1000000
set_option maxHeartbeats 8000000
set_option linter.unusedSimpArgs false
set_option linter.unusedVariables false
open Go.RowKit

theorem made4 {M:St}{l:Int}{lo hi e:Edge}(h:Pair 4 M l lo hi e) :
  (hi.to=0∧e=lo)∨(hi.to≠0∧∃ r,look M.cs e.to=some r∧r.top=l ∧
   ((lo=hi∧∃ x,look M.cs lo.to=some x∧x.top=l+1∧r.bot=x.bot∧r.lo=x.lo∧r.hi=x.hi) ∨
    ((lo=hi→∀ x,look M.cs lo.to=some x→x.top≠l+1)∧r.bot=l∧r.lo=lo∧r.hi=hi))):=by
 rcases h.up with u|⟨r,u,hr,_⟩
 ·rw [mkK4] at u
  unfold makeAct qRest at u
  split at u
  ·cases u
  ·split at u
   ·cases u
   ·split at u
    ·rename_i hz
     cases u
     exact .inl ⟨hz,rfl⟩
    ·split at u
     ·cases u
     ·split at u
      ·split at u<;>cases u
      ·cases u
 ·rw [mkK4] at u
  unfold makeAct qRest at u
  split at u
  ·cases u
  ·split at u
   ·cases u
   ·split at u
    ·cases u
    ·rename_i hz
     refine .inr ⟨hz,r,hr,?_⟩
     split at u
     ·rename_i hk
      cases u
      exact⟨rfl,.inr ⟨fun _ x hx=>(by rw [hk] at hx;cases hx),rfl,rfl,rfl⟩⟩
     ·rename_i x hk
      split at u
      ·rename_i hs
       split at u
       ·rename_i ht
        cases u
        exact⟨rfl,.inl ⟨hs,x,hk,ht,rfl,rfl,rfl⟩⟩
       ·rename_i ht
        cases u
        exact⟨rfl,.inr ⟨fun _ y hy=>(by rw [hk] at hy;cases hy;exact ht),rfl,rfl,rfl⟩⟩
      ·rename_i hs
       cases u
       exact⟨rfl,.inr ⟨fun hh=>absurd hh hs,rfl,rfl,rfl⟩⟩

theorem look_zero {cs:List (Option Rec)}{a:Int}{r:Rec}(h:look cs a=some r):¬a<2:=fun hlt=>by rw [look_low hlt] at h;cases h

theorem zero4 {M:St}:∀ (k:Nat) (ts:List Bool) (l:Int) (e:Edge),IsT 4 M k ts l e→(e.to=0↔noneL ts=true):=by
 intro k
 induction k with
 | zero=>
  intro ts l e h
  obtain⟨b,rfl,rfl⟩:=h
  cases b
  ·exact⟨fun _=>rfl,fun _=>rfl⟩
  ·exact⟨fun hh=>(by cases hh),fun hh=>(by cases hh)⟩
 | succ k ih=>
  intro ts l e h
  obtain⟨_,lo,hi,h1,h2,h3⟩:=h
  have a:=ih _ _ _ h1
  have b:=ih _ _ _ h2
  rw [noneL_halves (2 ^ k),Bool.and_eq_true,← a,← b]
  rcases made4 h3 with⟨z,rfl⟩|⟨z,r,hr,_⟩
  ·exact⟨fun hh=>⟨hh,z⟩,fun hh=>hh.1⟩
  ·have:=look_zero hr
   exact⟨fun hh=>absurd hh (by omega),fun hh=>absurd hh.2 z⟩

theorem skip4 {M:St}{k:Nat}{ts:List Bool}{l:Int}{e:Edge}(h:IsT 4 M (k+1) ts l e)(hn:noneL (ts.drop (2 ^ k))=true):IsT 4 M k (ts.take (2 ^ k)) (l+1) e:=by
 obtain⟨_,lo,hi,h1,h2,h3⟩:=h
 have b:=(zero4 _ _ _ _ h2).2 hn
 rcases made4 h3 with⟨z,rfl⟩|⟨z,_⟩
 ·exact h1
 ·exact absurd b z

theorem shape4 {M:St}(hw:M.wf):∀ (k:Nat) (ts:List Bool) (l:Int) (e:Edge),IsT 4 M (k+1) ts l e→l+(k+1:Nat)=M.n→noneL (ts.drop (2 ^ k))=false →
  ∃ r,look M.cs e.to=some r∧r.top=l∧∀ c t1 t2,chainQ k (ts.take (2 ^ k)) (ts.drop (2 ^ k))=(c,t1,t2)→r.bot=l+(k-c:Nat)∧IsT 4 M c t1 (r.bot+1) r.lo∧IsT 4 M c t2 (r.bot+1) r.hi:=by
 intro k
 induction k with
 | zero=>
  intro ts l e h hl hn
  obtain⟨_,lo,hi,h1,h2,h3⟩:=h
  rcases made4 h3 with⟨z,_⟩|⟨z,r,hr,ht,hc⟩
  ·rw [(zero4 _ _ _ _ h2).1 z] at hn;cases hn
  ·refine⟨r,hr,ht,fun c t1 t2 hq=>?_⟩
   have hq2:(0,ts.take (2 ^ 0),ts.drop (2 ^ 0))=(c,t1,t2):=hq
   cases hq2
   rcases hc with⟨_,x,hx,_⟩|⟨_,q1,q2,q3⟩
   ·obtain⟨b,_,rfl⟩:=h1
    exfalso
    have:=look_zero hx
    cases b
    ·exact this (show(0:Int)<2 by decide)
    ·exact this (show(1:Int)<2 by decide)
   ·rw [q1,q2,q3]
    exact⟨by simp,h1,h2⟩
 | succ k ih=>
  intro ts l e h hl hn
  have hlen:=h.length
  obtain⟨_,lo,hi,h1,h2,h3⟩:=h
  have hl1:l+1+(k+1:Nat)=M.n:=by push_cast at hl ⊢;omega
  rcases made4 h3 with⟨z,_⟩|⟨z,r,hr,ht,hc⟩
  ·rw [(zero4 _ _ _ _ h2).1 z] at hn;cases hn
  ·refine⟨r,hr,ht,fun c t1 t2 hq=>?_⟩
   obtain⟨T0,hT0⟩:∃ T0,T0=ts.take (2 ^ (k+1)):=⟨_,rfl⟩
   obtain⟨T1,hT1⟩:∃ T1,T1=ts.drop (2 ^ (k+1)):=⟨_,rfl⟩
   rw [← hT0,← hT1] at hq
   rw [← hT0] at h1
   rw [← hT1] at h2
   have hq2:(if sameL T0 T1&&!noneL (T0.drop (2 ^ k)) then chainQ k (T0.take (2 ^ k)) (T0.drop (2 ^ k)) else(k+1,T0,T1))=(c,t1,t2):=hq
   by_cases hs:lo=hi
   ·subst hs
    have hTT:T0=T1:=IsT.inj hw _ _ _ _ _ h1 h2
    subst hTT
    rw [sameL_iff.2 rfl,Bool.true_and] at hq2
    cases hnn:noneL (T0.drop (2 ^ k)) with
    | true=>
     rw [hnn] at hq2
     cases hq2
     have hsk:=skip4 h1 hnn
     rcases hc with⟨_,x,hx,hxt,_⟩|⟨_,q1,q2,q3⟩
     ·have:=hsk.top hw (by decide) (by push_cast at hl ⊢;omega) hx
      omega
     ·rw [q1,q2,q3]
      exact⟨by simp,h1,h1⟩
    | false=>
     rw [hnn] at hq2
     obtain⟨y,hy,hyt,hyc⟩:=ih _ _ _ h1 hl1 hnn
     obtain⟨y1,y2,y3⟩:=hyc c t1 t2 hq2
     have hck:c≤k:=by
      have:=chainQ_le k (T0.take (2 ^ k)) (T0.drop (2 ^ k))
      have e1:(chainQ k (T0.take (2 ^ k)) (T0.drop (2 ^ k))).1=c:=by rw [show chainQ k (T0.take (2 ^ k)) (T0.drop (2 ^ k))=(c,t1,t2) from hq2]
      omega
     rcases hc with⟨_,x,hx,hxt,q1,q2,q3⟩|⟨q0,_⟩
     ·rw [hy] at hx
      cases hx
      rw [q1,q2,q3]
      exact⟨by omega,y2,y3⟩
     ·exact absurd hyt (q0 rfl y hy)
   ·have hTT:sameL T0 T1=false:=sameL_false.2 (fun hh=>hs (by subst hh;exact IsT.det hw _ _ _ _ _ h1 h2))
    rw [hTT] at hq2
    cases hq2
    rcases hc with⟨q0,_⟩|⟨_,q1,q2,q3⟩
    ·exact absurd q0 hs
    ·rw [q1,q2,q3]
     exact⟨by simp,h1,h2⟩

theorem digS_zero:digS 0=⟨#[48]⟩:=by decide
theorem digS_one:digS 1=⟨#[49]⟩:=by decide

theorem unfS_low {f:Int}{M:St}{n:Nat}{e:Edge}(hf:f≠5)(h:e.to<2):unfS f M (n+1) e=digS e.to:=by
 show(if f=5 then _ else if e.to<2 then _ else _)=_
 rw [if_neg hf,if_pos h]

theorem unfS_chain {f:Int}{M:St}{n:Nat}{e:Edge}{r:Rec}(hf:f=3∨f=4)(h:look M.cs e.to=some r) :
  unfS f M (n+1) e=⟨#[40]⟩++digS r.top++⟨#[58]⟩++digS r.bot++⟨#[32]⟩++unfS f M n r.lo++⟨#[32]⟩++unfS f M n r.hi++⟨#[41]⟩:=by
 show(if f=5 then _ else if e.to<2 then _ else if f=3∨f=4 then _ else _)=_
 rw [if_neg (by omega),if_neg (look_zero h),if_pos hf,h]
 rfl

theorem two4 {M:St}(hw:M.wf):∀ (k:Nat) (ts:List Bool) (l:Int) (e:Edge),IsT 4 M k ts l e→l+(k:Nat)=M.n→∀ m n,k≤m→k≤n→unfS 4 M (m+1) e=termQ (n+1) k ts l:=by
 intro k
 induction k using Nat.strongRecOn with
 | ind k ih=>
  intro ts l e h hl m n hm hn
  cases k with
  | zero=>
   obtain⟨b,rfl,rfl⟩:=h
   cases b
   ·exact(unfS_low (by decide) (show(0:Int)<2 by decide)).trans digS_zero
   ·exact(unfS_low (by decide) (show(1:Int)<2 by decide)).trans digS_one
  | succ k=>
   have ht:termQ (n+1) (k+1) ts l=(if noneL ts then⟨#[48]⟩ else if noneL (ts.drop (2 ^ k)) then termQ n k (ts.take (2 ^ k)) (l+1)
    else⟨#[40]⟩++digS l++⟨#[58]⟩++digS (l+(k-(chainQ k (ts.take (2 ^ k)) (ts.drop (2 ^ k))).1:Nat))++⟨#[32]⟩++termQ n (chainQ k (ts.take (2 ^ k)) (ts.drop (2 ^ k))).1 (chainQ k (ts.take (2 ^ k)) (ts.drop (2 ^ k))).2.1 (l+(k-(chainQ k (ts.take (2 ^ k)) (ts.drop (2 ^ k))).1:Nat)+1)++⟨#[32]⟩++termQ n (chainQ k (ts.take (2 ^ k)) (ts.drop (2 ^ k))).1 (chainQ k (ts.take (2 ^ k)) (ts.drop (2 ^ k))).2.2 (l+(k-(chainQ k (ts.take (2 ^ k)) (ts.drop (2 ^ k))).1:Nat)+1)++⟨#[41]⟩):=rfl
   rw [ht]
   by_cases hz:e.to=0
   ·rw [if_pos ((zero4 _ _ _ _ h).1 hz),unfS_low (by decide) (by omega),hz]
    exact digS_zero
   ·rw [if_neg (fun hh=>hz ((zero4 _ _ _ _ h).2 hh))]
    obtain⟨n,rfl⟩:∃ n',n=n'+1:=⟨n-1,by omega⟩
    cases hd:noneL (ts.drop (2 ^ k)) with
    | true=>
     rw [if_pos rfl]
     exact ih k (by omega) _ _ _ (skip4 h hd) (by push_cast at hl ⊢;omega) m n (by omega) (by omega)
    | false=>
     rw [if_neg (by decide)]
     obtain⟨r,hr,htp,hc⟩:=shape4 hw k ts l e h hl hd
     obtain⟨c,t1,t2,hq⟩:∃ c t1 t2,chainQ k (ts.take (2 ^ k)) (ts.drop (2 ^ k))=(c,t1,t2):=⟨_,_,_,rfl⟩
     obtain⟨c1,c2,c3⟩:=hc c t1 t2 hq
     have hck:c≤k:=by
      have:=chainQ_le k (ts.take (2 ^ k)) (ts.drop (2 ^ k))
      rw [hq] at this
      exact this
     obtain⟨m,rfl⟩:∃ m',m=m'+1:=⟨m-1,by omega⟩
     rw [hq,unfS_chain (.inr rfl) hr]
     have hlb:r.bot+1+(c:Nat)=M.n:=by rw [c1];push_cast at hl ⊢;omega
     rw [ih c (by omega) _ _ _ c2 hlb m n (by omega) (by omega),ih c (by omega) _ _ _ c3 hlb m n (by omega) (by omega),htp,c1]

theorem unfS_plain {f:Int}{M:St}{n:Nat}{e:Edge}{r:Rec}(hf:f=1∨f=2)(h:look M.cs e.to=some r) :
  unfS f M (n+1) e=⟨#[40]⟩++digS r.top++⟨#[32]⟩++unfS f M n r.lo++⟨#[32]⟩++unfS f M n r.hi++⟨#[41]⟩:=by
 show(if f=5 then _ else if e.to<2 then _ else if f=3∨f=4 then _ else _)=_
 rw [if_neg (by omega),if_neg (look_zero h),if_neg (by omega),h]
 rfl

theorem made1 {M:St}{l:Int}{lo hi e:Edge}(h:Pair 1 M l lo hi e) :
  (lo=hi∧e=lo)∨(lo≠hi∧∃ r,look M.cs e.to=some r∧r.top=l∧r.lo=lo∧r.hi=hi):=by
 rcases h.up with u|⟨r,u,hr,_⟩
 ·rw [mkK1] at u
  unfold makeAct bRest at u
  split at u
  ·cases u
  ·split at u
   ·cases u
   ·split at u
    ·rename_i hz
     cases u
     exact .inl ⟨hz,rfl⟩
    ·cases u
 ·rw [mkK1] at u
  unfold makeAct bRest at u
  split at u
  ·cases u
  ·split at u
   ·cases u
   ·split at u
    ·cases u
    ·rename_i hz
     cases u
     exact .inr ⟨hz,_,hr,rfl,rfl,rfl⟩

theorem made2 {M:St}{l:Int}{lo hi e:Edge}(h:Pair 2 M l lo hi e) :
  (hi.to=0∧e=lo)∨(hi.to≠0∧∃ r,look M.cs e.to=some r∧r.top=l∧r.lo=lo∧r.hi=hi):=by
 rcases h.up with u|⟨r,u,hr,_⟩
 ·rw [mkK2] at u
  unfold makeAct zRest at u
  split at u
  ·cases u
  ·split at u
   ·cases u
   ·split at u
    ·rename_i hz
     cases u
     exact .inl ⟨hz,rfl⟩
    ·cases u
 ·rw [mkK2] at u
  unfold makeAct zRest at u
  split at u
  ·cases u
  ·split at u
   ·cases u
   ·split at u
    ·cases u
    ·rename_i hz
     cases u
     exact .inr ⟨hz,_,hr,rfl,rfl,rfl⟩

theorem two1 {M:St}(hw:M.wf):∀ (k:Nat) (ts:List Bool) (l:Int) (e:Edge),IsT 1 M k ts l e→∀ m,k≤m→unfS 1 M (m+1) e=termB k ts l:=by
 intro k
 induction k with
 | zero=>
  intro ts l e h m hm
  obtain⟨b,rfl,rfl⟩:=h
  cases b
  ·exact(unfS_low (by decide) (show(0:Int)<2 by decide)).trans digS_zero
  ·exact(unfS_low (by decide) (show(1:Int)<2 by decide)).trans digS_one
 | succ k ih=>
  intro ts l e h m hm
  have ht:termB (k+1) ts l=(if sameL (ts.take (2 ^ k)) (ts.drop (2 ^ k)) then termB k (ts.take (2 ^ k)) (l+1) else⟨#[40]⟩++digS l++⟨#[32]⟩++termB k (ts.take (2 ^ k)) (l+1)++⟨#[32]⟩++termB k (ts.drop (2 ^ k)) (l+1)++⟨#[41]⟩):=rfl
  rw [ht]
  obtain⟨_,lo,hi,h1,h2,h3⟩:=h
  rcases made1 h3 with⟨rfl,rfl⟩|⟨z,r,hr,q1,q2,q3⟩
  ·rw [if_pos (sameL_iff.2 (IsT.inj hw _ _ _ _ _ h1 h2))]
   exact ih _ _ _ h1 m (by omega)
  ·have hne:sameL (ts.take (2 ^ k)) (ts.drop (2 ^ k))=false:=sameL_false.2 (fun hh=>z (by rw [hh] at h1;exact IsT.det hw _ _ _ _ _ h1 h2))
   rw [hne,if_neg (by decide)]
   obtain⟨m,rfl⟩:∃ m',m=m'+1:=⟨m-1,by omega⟩
   rw [unfS_plain (.inl rfl) hr,q1,q2,q3,ih _ _ _ h1 m (by omega),ih _ _ _ h2 m (by omega)]

theorem zero2 {M:St}:∀ (k:Nat) (ts:List Bool) (l:Int) (e:Edge),IsT 2 M k ts l e→(e.to=0↔noneL ts=true):=by
 intro k
 induction k with
 | zero=>
  intro ts l e h
  obtain⟨b,rfl,rfl⟩:=h
  cases b
  ·exact⟨fun _=>rfl,fun _=>rfl⟩
  ·exact⟨fun hh=>(by cases hh),fun hh=>(by cases hh)⟩
 | succ k ih=>
  intro ts l e h
  obtain⟨_,lo,hi,h1,h2,h3⟩:=h
  have a:=ih _ _ _ h1
  have b:=ih _ _ _ h2
  rw [noneL_halves (2 ^ k),Bool.and_eq_true,← a,← b]
  rcases made2 h3 with⟨z,rfl⟩|⟨z,r,hr,_⟩
  ·exact⟨fun hh=>⟨hh,z⟩,fun hh=>hh.1⟩
  ·have:=look_zero hr
   exact⟨fun hh=>absurd hh (by omega),fun hh=>absurd hh.2 z⟩

theorem two2 {M:St}:∀ (k:Nat) (ts:List Bool) (l:Int) (e:Edge),IsT 2 M k ts l e→∀ m,k≤m→unfS 2 M (m+1) e=termZ k ts l:=by
 intro k
 induction k with
 | zero=>
  intro ts l e h m hm
  obtain⟨b,rfl,rfl⟩:=h
  cases b
  ·exact(unfS_low (by decide) (show(0:Int)<2 by decide)).trans digS_zero
  ·exact(unfS_low (by decide) (show(1:Int)<2 by decide)).trans digS_one
 | succ k ih=>
  intro ts l e h m hm
  have ht:termZ (k+1) ts l=(if noneL (ts.drop (2 ^ k)) then termZ k (ts.take (2 ^ k)) (l+1) else⟨#[40]⟩++digS l++⟨#[32]⟩++termZ k (ts.take (2 ^ k)) (l+1)++⟨#[32]⟩++termZ k (ts.drop (2 ^ k)) (l+1)++⟨#[41]⟩):=rfl
  rw [ht]
  obtain⟨_,lo,hi,h1,h2,h3⟩:=h
  rcases made2 h3 with⟨z,rfl⟩|⟨z,r,hr,q1,q2,q3⟩
  ·rw [if_pos ((zero2 _ _ _ _ h2).1 z)]
   exact ih _ _ _ h1 m (by omega)
  ·rw [if_neg (fun hh=>z ((zero2 _ _ _ _ h2).2 hh))]
   obtain⟨m,rfl⟩:∃ m',m=m'+1:=⟨m-1,by omega⟩
   rw [unfS_plain (.inr rfl) hr,q1,q2,q3,ih _ _ _ h1 m (by omega),ih _ _ _ h2 m (by omega)]

theorem made3 {M:St}{l:Int}{lo hi e:Edge}(h:Pair 3 M l lo hi e) :
  (lo=hi∧e=lo)∨(lo≠hi∧∃ r,look M.cs e.to=some r∧r.top=l ∧
   ((∃ x,look M.cs lo.to=some x∧x.top=l+1∧x.hi=hi∧r.bot=x.bot∧r.lo=x.lo∧r.hi=hi) ∨
    ((∀ x,look M.cs lo.to=some x→x.top=l+1→x.hi≠hi)∧r.bot=l∧r.lo=lo∧r.hi=hi))):=by
 rcases h.up with u|⟨r,u,hr,_⟩
 ·rw [mkK3] at u
  unfold makeAct cRest at u
  split at u
  ·cases u
  ·split at u
   ·cases u
   ·split at u
    ·rename_i hz
     cases u
     exact .inl ⟨hz,rfl⟩
    ·split at u
     ·cases u
     ·split at u
      ·split at u<;>cases u
      ·cases u
 ·rw [mkK3] at u
  unfold makeAct cRest at u
  split at u
  ·cases u
  ·split at u
   ·cases u
   ·split at u
    ·cases u
    ·rename_i hz
     refine .inr ⟨hz,r,hr,?_⟩
     split at u
     ·rename_i hk
      cases u
      exact⟨rfl,.inr ⟨fun x hx=>(by rw [hk] at hx;cases hx),rfl,rfl,rfl⟩⟩
     ·rename_i x hk
      split at u
      ·rename_i ht
       split at u
       ·rename_i hs
        cases u
        exact⟨rfl,.inl ⟨x,hk,ht,hs,rfl,rfl,rfl⟩⟩
       ·rename_i hs
        cases u
        exact⟨rfl,.inr ⟨fun y hy _=>(by rw [hk] at hy;cases hy;exact hs),rfl,rfl,rfl⟩⟩
      ·rename_i ht
       cases u
       exact⟨rfl,.inr ⟨fun y hy hyt=>(by rw [hk] at hy;cases hy;exact absurd hyt ht),rfl,rfl,rfl⟩⟩

theorem skip3 {M:St}(hw:M.wf){k:Nat}{ts:List Bool}{l:Int}{e:Edge}(h:IsT 3 M (k+1) ts l e)(hs:ts.take (2 ^ k)=ts.drop (2 ^ k)):IsT 3 M k (ts.take (2 ^ k)) (l+1) e:=by
 obtain⟨_,lo,hi,h1,h2,h3⟩:=h
 have:lo=hi:=IsT.det hw _ _ _ _ _ h1 (hs ▸ h2)
 rcases made3 h3 with⟨_,rfl⟩|⟨q,_⟩
 ·exact h1
 ·exact absurd this q

theorem down3 {M:St}(hw:M.wf):∀ (k:Nat) (lo hi:List Bool) (l:Int) (e:Edge) (c:Nat) (t1 t2:List Bool),chainC k lo hi=(c,t1,t2)→IsT 3 M k hi l e→IsT 3 M c t2 (l+(k-c:Nat)) e:=by
 intro k
 induction k with
 | zero=>
  intro lo hi l e c t1 t2 hq h
  have hq2:(0,lo,hi)=(c,t1,t2):=hq
  cases hq2
  simpa using h
 | succ k ih=>
  intro lo hi l e c t1 t2 hq h
  have hq2:(if !sameL (lo.take (2 ^ k)) (lo.drop (2 ^ k))&&sameL (hi.take (2 ^ k)) (hi.drop (2 ^ k))&&sameL (hi.take (2 ^ k)) (lo.drop (2 ^ k)) then chainC k (lo.take (2 ^ k)) (lo.drop (2 ^ k)) else(k+1,lo,hi))=(c,t1,t2):=hq
  split at hq2
  ·rename_i hc
   rw [Bool.and_eq_true,Bool.and_eq_true] at hc
   have s1:=sameL_iff.1 hc.1.2
   have s2:=sameL_iff.1 hc.2
   have h1:=skip3 hw h s1
   rw [s2] at h1
   have h2:=ih _ _ _ _ _ _ _ hq2 h1
   have hck:c≤k:=by
    have:=chainC_le k (lo.take (2 ^ k)) (lo.drop (2 ^ k))
    rw [hq2] at this
    exact this
   rwa [show l+1+((k-c:Nat):Int)=l+((k+1-c:Nat):Int) by omega] at h2
  ·cases hq2
   simpa using h

theorem shape3 {M:St}(hw:M.wf):∀ (k:Nat) (ts:List Bool) (l:Int) (e:Edge),IsT 3 M (k+1) ts l e→l+(k+1:Nat)=M.n→ts.take (2 ^ k)≠ts.drop (2 ^ k) →
  ∃ r,look M.cs e.to=some r∧r.top=l∧∀ c t1 t2,chainC k (ts.take (2 ^ k)) (ts.drop (2 ^ k))=(c,t1,t2)→r.bot=l+(k-c:Nat)∧IsT 3 M c t1 (r.bot+1) r.lo∧IsT 3 M c t2 (r.bot+1) r.hi:=by
 intro k
 induction k with
 | zero=>
  intro ts l e h hl hn
  obtain⟨_,lo,hi,h1,h2,h3⟩:=h
  rcases made3 h3 with⟨rfl,_⟩|⟨z,r,hr,ht,hc⟩
  ·exact absurd (IsT.inj hw _ _ _ _ _ h1 h2) hn
  ·refine⟨r,hr,ht,fun c t1 t2 hq=>?_⟩
   have hq2:(0,ts.take (2 ^ 0),ts.drop (2 ^ 0))=(c,t1,t2):=hq
   cases hq2
   rcases hc with⟨x,hx,_⟩|⟨_,q1,q2,q3⟩
   ·obtain⟨b,_,rfl⟩:=h1
    exfalso
    have:=look_zero hx
    cases b
    ·exact this (show(0:Int)<2 by decide)
    ·exact this (show(1:Int)<2 by decide)
   ·rw [q1,q2,q3]
    exact⟨by simp,h1,h2⟩
 | succ k ih=>
  intro ts l e h hl hn
  obtain⟨_,lo,hi,h1,h2,h3⟩:=h
  have hl1:l+1+(k+1:Nat)=M.n:=by push_cast at hl ⊢;omega
  have hl2:l+1+1+(k:Nat)=M.n:=by push_cast at hl ⊢;omega
  rcases made3 h3 with⟨rfl,_⟩|⟨z,r,hr,ht,hc⟩
  ·exact absurd (IsT.inj hw _ _ _ _ _ h1 h2) hn
  ·refine⟨r,hr,ht,fun c t1 t2 hq=>?_⟩
   obtain⟨T0,hT0⟩:∃ T0,T0=ts.take (2 ^ (k+1)):=⟨_,rfl⟩
   obtain⟨T1,hT1⟩:∃ T1,T1=ts.drop (2 ^ (k+1)):=⟨_,rfl⟩
   rw [← hT0,← hT1] at hq
   rw [← hT0] at h1
   rw [← hT1] at h2
   have hq2:(if !sameL (T0.take (2 ^ k)) (T0.drop (2 ^ k))&&sameL (T1.take (2 ^ k)) (T1.drop (2 ^ k))&&sameL (T1.take (2 ^ k)) (T0.drop (2 ^ k)) then chainC k (T0.take (2 ^ k)) (T0.drop (2 ^ k)) else(k+1,T0,T1))=(c,t1,t2):=hq
   by_cases hs:T0.take (2 ^ k)=T0.drop (2 ^ k)
   ·rw [sameL_iff.2 hs] at hq2
    cases hq2
    have hsk:=skip3 hw h1 hs
    rcases hc with⟨x,hx,hxt,_⟩|⟨_,q1,q2,q3⟩
    ·have:=hsk.top hw (by decide) hl2 hx
     omega
    ·rw [q1,q2,q3]
     exact⟨by simp,h1,h2⟩
   ·obtain⟨y,hy,hyt,hyc⟩:=ih _ _ _ h1 hl1 hs
    rw [sameL_false.2 hs] at hq2
    by_cases hcond:T1.take (2 ^ k)=T1.drop (2 ^ k)∧T1.take (2 ^ k)=T0.drop (2 ^ k)
    ·rw [sameL_iff.2 hcond.1,sameL_iff.2 hcond.2] at hq2
     have hq3:chainC k (T0.take (2 ^ k)) (T0.drop (2 ^ k))=(c,t1,t2):=hq2
     obtain⟨y1,y2,y3⟩:=hyc c t1 t2 hq3
     have hck:c≤k:=by
      have:=chainC_le k (T0.take (2 ^ k)) (T0.drop (2 ^ k))
      rw [hq3] at this
      exact this
     have g1:=skip3 hw h2 hcond.1
     rw [hcond.2] at g1
     have g2:=down3 hw _ _ _ _ _ _ _ _ hq3 g1
     have el:l+1+1+((k-c:Nat):Int)=y.bot+1:=by rw [y1];omega
     rw [el] at g2
     have hhi:y.hi=hi:=IsT.det hw _ _ _ _ _ y3 g2
     rcases hc with⟨x,hx,hxt,hxh,q1,q2,q3⟩|⟨q0,_⟩
     ·rw [hy] at hx
      cases hx
      rw [q1,q2,q3]
      exact⟨by omega,y2,g2⟩
     ·exact absurd hhi (q0 y hy hyt)
    ·have hq3:(k+1,T0,T1)=(c,t1,t2):=by
      have:(!false&&sameL (T1.take (2 ^ k)) (T1.drop (2 ^ k))&&sameL (T1.take (2 ^ k)) (T0.drop (2 ^ k)))=false:=by
       rw [Bool.not_false,Bool.true_and]
       cases a1:sameL (T1.take (2 ^ k)) (T1.drop (2 ^ k)) with
       | false=>rfl
       | true=>
        rw [Bool.true_and]
        cases a2:sameL (T1.take (2 ^ k)) (T0.drop (2 ^ k)) with
        | false=>rfl
        | true=>exact absurd ⟨sameL_iff.1 a1,sameL_iff.1 a2⟩ hcond
      rw [this] at hq2
      exact hq2
     rcases hc with⟨x,hx,hxt,hxh,q1,q2,q3⟩|⟨_,q1,q2,q3⟩
     ·exfalso
      rw [hy] at hx
      cases hx
      obtain⟨d,s1,s2,hcq⟩:∃ c s1 s2,chainC k (T0.take (2 ^ k)) (T0.drop (2 ^ k))=(c,s1,s2):=⟨_,_,_,rfl⟩
      obtain⟨y1,y2,y3⟩:=hyc d s1 s2 hcq
      have hck:d≤k:=by
       have:=chainC_le k (T0.take (2 ^ k)) (T0.drop (2 ^ k))
       rw [hcq] at this
       exact this
      obtain⟨_,lo0,hi0,_,f2,_⟩:=id h1
      have g2:=down3 hw _ _ _ _ _ _ _ _ hcq f2
      have el:l+1+1+((k-d:Nat):Int)=y.bot+1:=by rw [y1];omega
      rw [el] at g2
      have hh:hi0=hi:=(IsT.det hw _ _ _ _ _ g2 y3).trans hxh
      subst hh
      by_cases hp:T1.take (2 ^ k)=T1.drop (2 ^ k)
      ·exact hcond ⟨hp,IsT.inj hw _ _ _ _ _ (skip3 hw h2 hp) f2⟩
      ·obtain⟨v,hv,hvt,_⟩:=ih _ _ _ h2 hl1 hp
       have:=f2.top hw (by decide) hl2 hv
       omega
     ·cases hq3
      rw [q1,q2,q3]
      exact⟨by simp,h1,h2⟩

theorem two3 {M:St}(hw:M.wf):∀ (k:Nat) (ts:List Bool) (l:Int) (e:Edge),IsT 3 M k ts l e→l+(k:Nat)=M.n→∀ m n,k≤m→k≤n→unfS 3 M (m+1) e=termC (n+1) k ts l:=by
 intro k
 induction k using Nat.strongRecOn with
 | ind k ih=>
  intro ts l e h hl m n hm hn
  cases k with
  | zero=>
   obtain⟨b,rfl,rfl⟩:=h
   cases b
   ·exact(unfS_low (by decide) (show(0:Int)<2 by decide)).trans digS_zero
   ·exact(unfS_low (by decide) (show(1:Int)<2 by decide)).trans digS_one
  | succ k=>
   have ht:termC (n+1) (k+1) ts l=(if sameL (ts.take (2 ^ k)) (ts.drop (2 ^ k)) then termC n k (ts.take (2 ^ k)) (l+1)
    else⟨#[40]⟩++digS l++⟨#[58]⟩++digS (l+(k-(chainC k (ts.take (2 ^ k)) (ts.drop (2 ^ k))).1:Nat))++⟨#[32]⟩++termC n (chainC k (ts.take (2 ^ k)) (ts.drop (2 ^ k))).1 (chainC k (ts.take (2 ^ k)) (ts.drop (2 ^ k))).2.1 (l+(k-(chainC k (ts.take (2 ^ k)) (ts.drop (2 ^ k))).1:Nat)+1)++⟨#[32]⟩++termC n (chainC k (ts.take (2 ^ k)) (ts.drop (2 ^ k))).1 (chainC k (ts.take (2 ^ k)) (ts.drop (2 ^ k))).2.2 (l+(k-(chainC k (ts.take (2 ^ k)) (ts.drop (2 ^ k))).1:Nat)+1)++⟨#[41]⟩):=rfl
   rw [ht]
   obtain⟨n,rfl⟩:∃ n',n=n'+1:=⟨n-1,by omega⟩
   cases hd:sameL (ts.take (2 ^ k)) (ts.drop (2 ^ k)) with
   | true=>
    rw [if_pos rfl]
    exact ih k (by omega) _ _ _ (skip3 hw h (sameL_iff.1 hd)) (by push_cast at hl ⊢;omega) m n (by omega) (by omega)
   | false=>
    rw [if_neg (by decide)]
    obtain⟨r,hr,htp,hc⟩:=shape3 hw k ts l e h hl (sameL_false.1 hd)
    obtain⟨c,t1,t2,hq⟩:∃ c t1 t2,chainC k (ts.take (2 ^ k)) (ts.drop (2 ^ k))=(c,t1,t2):=⟨_,_,_,rfl⟩
    obtain⟨c1,c2,c3⟩:=hc c t1 t2 hq
    have hck:c≤k:=by
     have:=chainC_le k (ts.take (2 ^ k)) (ts.drop (2 ^ k))
     rw [hq] at this
     exact this
    obtain⟨m,rfl⟩:∃ m',m=m'+1:=⟨m-1,by omega⟩
    rw [hq,unfS_chain (.inl rfl) hr]
    have hlb:r.bot+1+(c:Nat)=M.n:=by rw [c1];push_cast at hl ⊢;omega
    rw [ih c (by omega) _ _ _ c2 hlb m n (by omega) (by omega),ih c (by omega) _ _ _ c3 hlb m n (by omega) (by omega),htp,c1]

theorem made5 {M:St}{l:Int}{lo hi e:Edge}(h:Pair 5 M l lo hi e) :
  (lo=hi∧e=lo)∨(lo≠hi∧hi.to=0∧lo.tag=l+1∧e=⟨l,lo.to⟩)∨(lo≠hi∧¬(hi.to=0∧lo.tag=l+1)∧e.tag=l∧∃ r,look M.cs e.to=some r∧r.top=l∧r.lo=lo∧r.hi=hi):=by
 rcases h.up with u|⟨r,u,hr,ht⟩
 ·rw [mkK5] at u
  unfold tAct at u
  split at u
  ·cases u
  ·split at u
   ·cases u
   ·split at u
    ·rename_i hz
     cases u
     exact .inl ⟨hz,rfl⟩
    ·rename_i hz
     split at u
     ·rename_i hc
      cases u
      exact .inr (.inl ⟨hz,hc.1,hc.2,rfl⟩)
     ·cases u
 ·rw [mkK5] at u
  unfold tAct at u
  split at u
  ·cases u
  ·split at u
   ·cases u
   ·split at u
    ·cases u
    ·rename_i hz
     split at u
     ·cases u
     ·rename_i hc
      cases u
      exact .inr (.inr ⟨hz,hc,ht,_,hr,rfl,rfl,rfl⟩)

theorem zero5 {M:St}:∀ (k:Nat) (ts:List Bool) (l:Int) (e:Edge),IsT 5 M k ts l e→(noneL ts=true→e=⟨0,0⟩)∧(e.to=0→noneL ts=true):=by
 intro k
 induction k with
 | zero=>
  intro ts l e h
  obtain⟨b,rfl,rfl⟩:=h
  cases b
  ·exact⟨fun _=>rfl,fun _=>rfl⟩
  ·exact⟨fun hh=>(by cases hh),fun hh=>(by cases hh)⟩
 | succ k ih=>
  intro ts l e h
  obtain⟨_,lo,hi,h1,h2,h3⟩:=h
  have a:=ih _ _ _ h1
  have b:=ih _ _ _ h2
  rw [noneL_halves (2 ^ k),Bool.and_eq_true]
  rcases made5 h3 with⟨rfl,rfl⟩|⟨z,q1,q2,rfl⟩|⟨z,q1,q2,r,hr,_⟩
  ·exact⟨fun hh=>a.1 hh.1,fun hh=>⟨a.2 hh,b.2 hh⟩⟩
  ·refine⟨fun hh=>absurd ((a.1 hh.1).trans (b.1 hh.2).symm) z,fun hh=>⟨a.2 hh,b.2 q1⟩⟩
  ·have:=look_zero hr
   exact⟨fun hh=>absurd ((a.1 hh.1).trans (b.1 hh.2).symm) z,fun hh=>absurd hh (by omega)⟩

theorem stripS_free:∀ (k:Nat) (ts:List Bool),freeB k ts=false→stripS k ts=(k,ts):=by
 intro k ts h
 cases k with
 | zero=>rfl
 | succ k=>
  have h2:sameL (ts.take (2 ^ k)) (ts.drop (2 ^ k))=false:=h
  show(if sameL (ts.take (2 ^ k)) (ts.drop (2 ^ k))=true then _ else _)=_
  rw [h2]
  rfl

theorem stripS_step {k:Nat}{ts:List Bool}(h:freeB k ts=true):(stripS k ts).1<k:=by
 cases k with
 | zero=>cases h
 | succ k=>
  have h2:sameL (ts.take (2 ^ k)) (ts.drop (2 ^ k))=true:=h
  have:stripS (k+1) ts=stripS k (ts.take (2 ^ k)):=by
   show(if sameL (ts.take (2 ^ k)) (ts.drop (2 ^ k))=true then _ else _)=_
   rw [if_pos h2]
  rw [this]
  have:=stripS_le k (ts.take (2 ^ k))
  omega

theorem shape5 {M:St}(hw:M.wf):∀ (k:Nat) (ts:List Bool) (l:Int) (e:Edge),IsT 5 M k ts l e→0≤l→noneL ts=false →
  e.tag=l+(k-(stripS k ts).1:Nat)∧∀ c t,stripZ (stripS k ts).1 (stripS k ts).2=(c,t) →
   (c=0→e.to=1)∧∀ c',c=c'+1→∃ r,look M.cs e.to=some r∧r.top=l+(k-c:Nat)∧IsT 5 M c' (t.take (2 ^ c')) (r.top+1) r.lo∧IsT 5 M c' (t.drop (2 ^ c')) (r.top+1) r.hi:=by
 intro k
 induction k with
 | zero=>
  intro ts l e h h0 hn
  obtain⟨b,rfl,rfl⟩:=h
  cases b
  ·cases hn
  ·refine⟨by show l=l+((0-0:Nat):Int);simp,fun c t hq=>?_⟩
   have hq2:(0,[true])=(c,t):=hq
   cases hq2
   exact⟨fun _=>rfl,fun c' hc=>by omega⟩
 | succ k ih=>
  intro ts l e h h0 hn
  have h:=id h
  obtain⟨_,lo,hi,h1,h2,h3⟩:=id h
  have a0:=zero5 _ _ _ _ h1
  have b0:=zero5 _ _ _ _ h2
  obtain⟨T0,hT0⟩:∃ T0,T0=ts.take (2 ^ k):=⟨_,rfl⟩
  obtain⟨T1,hT1⟩:∃ T1,T1=ts.drop (2 ^ k):=⟨_,rfl⟩
  have hnn:(noneL T0&&noneL T1)=false:=by rw [hT0,hT1,← noneL_halves];exact hn
  have hS:stripS (k+1) ts=(if sameL T0 T1 then stripS k T0 else(k+1,ts)):=by rw [hT0,hT1];rfl
  have hZ:stripZ (k+1) ts=(if noneL T1&&!freeB k T0 then stripZ k T0 else(k+1,ts)):=by rw [hT0,hT1];rfl
  have ht0:ts.take (2 ^ k)=T0:=hT0.symm
  have ht1:ts.drop (2 ^ k)=T1:=hT1.symm
  rw [ht0] at h1 a0
  rw [ht1] at h2 b0
  have hle:=stripS_le k T0
  rcases made5 h3 with⟨rfl,rfl⟩|⟨z,q1,q2,rfl⟩|⟨z,q1,q2,r,hr,hrt,hrl,hrh⟩
  ·have hTT:T0=T1:=IsT.inj hw _ _ _ _ _ h1 h2
   rw [← hTT,Bool.and_self] at hnn
   obtain⟨i1,i2⟩:=ih _ _ _ h1 (by omega) hnn
   rw [hS,sameL_iff.2 hTT,if_pos rfl]
   refine⟨by rw [i1];omega,fun c t hq=>?_⟩
   obtain⟨j1,j2⟩:=i2 c t hq
   have hck:c≤(stripS k T0).1:=by
    have:=stripZ_le (stripS k T0).1 (stripS k T0).2
    rw [hq] at this
    exact this
   refine⟨j1,fun c' hc=>?_⟩
   obtain⟨r,r1,r2,r3,r4⟩:=j2 c' hc
   exact⟨r,r1,by rw [r2];omega,r3,r4⟩
  ·have hTT:T0≠T1:=fun hh=>z (by subst hh;exact IsT.det hw _ _ _ _ _ h1 h2)
   have n1:noneL T1=true:=b0.2 q1
   have n0:noneL T0=false:=by rw [n1,Bool.and_true] at hnn;exact hnn
   obtain⟨i1,i2⟩:=ih _ _ _ h1 (by omega) n0
   have hf:freeB k T0=false:=by
    cases hff:freeB k T0 with
    | false=>rfl
    | true=>
     have:=stripS_step hff
     omega
   rw [stripS_free k T0 hf] at i2
   rw [hS,sameL_false.2 hTT,if_neg (by decide)]
   refine⟨by show l=_;simp,fun c t hq=>?_⟩
   have hq2:stripZ (k+1) ts=(c,t):=hq
   rw [hZ,n1,hf] at hq2
   have hq3:stripZ k T0=(c,t):=hq2
   obtain⟨j1,j2⟩:=i2 c t hq3
   have hck:c≤k:=by
    have:=stripZ_le k T0
    rw [hq3] at this
    exact this
   refine⟨j1,fun c' hc=>?_⟩
   obtain⟨r,r1,r2,r3,r4⟩:=j2 c' hc
   exact⟨r,r1,by rw [r2];omega,r3,r4⟩
  ·have hTT:T0≠T1:=fun hh=>z (by subst hh;exact IsT.det hw _ _ _ _ _ h1 h2)
   rw [hS,sameL_false.2 hTT,if_neg (by decide)]
   refine⟨by rw [q2];simp,fun c t hq=>?_⟩
   have hq2:stripZ (k+1) ts=(c,t):=hq
   have hcond:(noneL T1&&!freeB k T0)=false:=by
    cases n1:noneL T1 with
    | false=>rfl
    | true=>
     have n0:noneL T0=false:=by rw [n1,Bool.and_true] at hnn;exact hnn
     cases hff:freeB k T0 with
     | true=>rfl
     | false=>
      exfalso
      obtain⟨i1,_⟩:=ih _ _ _ h1 (by omega) n0
      rw [stripS_free k T0 hff] at i1
      exact q1 ⟨by rw [b0.1 n1],by rw [i1];simp⟩
   rw [hZ,hcond] at hq2
   cases hq2
   refine⟨fun hh=>by omega,fun c' hc=>?_⟩
   obtain rfl:k=c':=by omega
   refine⟨r,hr,by rw [hrt];simp,?_,?_⟩
   ·rw [hrt,hrl,ht0];exact h1
   ·rw [hrt,hrh,ht1];exact h2

theorem unfS_five0 {M:St}{n:Nat}{e:Edge}(h:e.to=0):unfS 5 M (n+1) e=⟨#[48]⟩:=by
 show(if(5:Int)=5 then(if e.to=0 then _ else _) else _)=_
 rw [if_pos (by decide),if_pos h]

theorem unfS_five1 {M:St}{n:Nat}{e:Edge}(h:e.to=1):unfS 5 M (n+1) e=digS e.tag++⟨#[64]⟩++⟨#[49]⟩:=by
 show(if(5:Int)=5 then(if e.to=0 then _ else if e.to=1 then _ else _) else _)=_
 rw [if_pos (by decide),if_neg (by omega),if_pos h]

theorem unfS_five {M:St}{n:Nat}{e:Edge}{r:Rec}(h:look M.cs e.to=some r) :
  unfS 5 M (n+1) e=digS e.tag++⟨#[64]⟩++⟨#[40]⟩++digS r.top++⟨#[32]⟩++unfS 5 M n r.lo++⟨#[32]⟩++unfS 5 M n r.hi++⟨#[41]⟩:=by
 have:=look_zero h
 show(if(5:Int)=5 then(if e.to=0 then _ else if e.to=1 then _ else _) else _)=_
 rw [if_pos (by decide),if_neg (by omega),if_neg (by omega),h]
 rfl

theorem two5 {M:St}(hw:M.wf):∀ (k:Nat) (ts:List Bool) (l:Int) (e:Edge),IsT 5 M k ts l e→l+(k:Nat)=M.n→0≤l→∀ m n,k≤m→k≤n→unfS 5 M (m+1) e=termT (n+1) k ts l:=by
 intro k
 induction k using Nat.strongRecOn with
 | ind k ih=>
  intro ts l e h hl h0 m n hm hn
  have ht:termT (n+1) k ts l=(if noneL ts then⟨#[48]⟩ else
   match stripZ (stripS k ts).1 (stripS k ts).2 with
   | (0,_)=>digS (l+(k-(stripS k ts).1:Nat))++⟨#[64]⟩++⟨#[49]⟩
   | (c+1,t)=>digS (l+(k-(stripS k ts).1:Nat))++⟨#[64]⟩++⟨#[40]⟩++digS (l+(k-(c+1):Nat))++⟨#[32]⟩++termT n c (t.take (2 ^ c)) (l+(k-c:Nat))++⟨#[32]⟩++termT n c (t.drop (2 ^ c)) (l+(k-c:Nat))++⟨#[41]⟩):=rfl
  rw [ht]
  have hz:=zero5 _ _ _ _ h
  cases hnn:noneL ts with
  | true=>rw [if_pos rfl];exact unfS_five0 (by rw [hz.1 hnn])
  | false=>
   rw [if_neg (by decide)]
   obtain⟨s1,s2⟩:=shape5 hw k ts l e h h0 hnn
   obtain⟨c,t,hq⟩:∃ c t,stripZ (stripS k ts).1 (stripS k ts).2=(c,t):=⟨_,_,rfl⟩
   obtain⟨j1,j2⟩:=s2 c t hq
   have hle:=stripS_le k ts
   have hck:c≤(stripS k ts).1:=by
    have:=stripZ_le (stripS k ts).1 (stripS k ts).2
    rw [hq] at this
    exact this
   rw [hq]
   cases c with
   | zero=>
    simp only []
    rw [unfS_five1 (j1 rfl),s1]
   | succ c=>
    simp only []
    obtain⟨r,r1,r2,r3,r4⟩:=j2 c rfl
    obtain⟨m,rfl⟩:∃ m',m=m'+1:=⟨m-1,by omega⟩
    obtain⟨n,rfl⟩:∃ n',n=n'+1:=⟨n-1,by omega⟩
    have hlb:r.top+1+(c:Nat)=M.n:=by rw [r2];omega
    rw [unfS_five r1,ih c (by omega) _ _ _ r3 hlb (by omega) m n (by omega) (by omega),ih c (by omega) _ _ _ r4 hlb (by omega) m n (by omega) (by omega),s1,r2]
    rw [show l+((k-(c+1):Nat):Int)+1=l+((k-c:Nat):Int) by omega]

end Go.Proofs.YtpgcbmbnognieaaGreat
