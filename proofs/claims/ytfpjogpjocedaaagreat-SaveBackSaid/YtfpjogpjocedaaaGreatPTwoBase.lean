/-
  Plainly: an edge made from below of a table, as a list; the same edge just for the same table.
-/
import Derived.Test.YtfpjogpjocedaaaGreatPHPlainA
namespace Go.Proofs.YtfpjogpjocedaaaGreat
set_option linter.unusedSimpArgs false
set_option linter.unusedVariables false
set_option maxHeartbeats 600000
open Go.RowKit

def mkK (f:Int) (M:St) (l:Int) (lo hi:Edge):(Edge × Int) ⊕ Rec:=
 if f=5 then tAct M l lo hi else if f=3 then makeAct M 3 l lo hi (cRest M l lo hi) else if f=4 then makeAct M 4 l lo hi (qRest M l lo hi)
 else if f=1 then makeAct M 1 l lo hi (bRest M l lo hi) else makeAct M 2 l lo hi (zRest M l lo hi)

theorem mkK1 (M:St) (l:Int) (lo hi:Edge):mkK 1 M l lo hi=makeAct M 1 l lo hi (bRest M l lo hi):=rfl

theorem mkK2 (M:St) (l:Int) (lo hi:Edge):mkK 2 M l lo hi=makeAct M 2 l lo hi (zRest M l lo hi):=rfl

theorem mkK3 (M:St) (l:Int) (lo hi:Edge):mkK 3 M l lo hi=makeAct M 3 l lo hi (cRest M l lo hi):=rfl

theorem mkK4 (M:St) (l:Int) (lo hi:Edge):mkK 4 M l lo hi=makeAct M 4 l lo hi (qRest M l lo hi):=rfl

theorem mkK5 (M:St) (l:Int) (lo hi:Edge):mkK 5 M l lo hi=tAct M l lo hi:=rfl

structure Pair (f:Int) (M:St) (l:Int) (lo hi e:Edge):Prop where
 up:mkK f M l lo hi=.inl (e,0) ∨ ∃ r,mkK f M l lo hi=.inr r ∧ look M.cs e.to=some r ∧ e.tag=tagOf f r
 down:viewAct M f e l=.inl (lo,hi,0) ∨ ∃ q,viewAct M f e l=.inr q ∧ look M.cs lo.to=some q ∧ lo.tag=0 ∧ hi=(if f=4 then lo else q.hi)
 leads:M.leads f e l=true
 lo:M.leads f lo (l + 1)=true
 hi:M.leads f hi (l + 1)=true

theorem Both2.pair {f:Int} {M:St} {l:Int} {lo hi e:Edge} (h:Both2 f M l lo hi e) (hf:f=3 ∨ f=4 ∨ f=5):Pair f M l lo hi e:=by
 refine ⟨?_,h.down,(right_iff.1 h.right).1,(right_iff.1 h.lo).1,(right_iff.1 h.hi).1⟩
 have hu:=h.up
 rcases hf with rfl | rfl | rfl <;> exact hu

theorem Pair.det {f:Int} {M:St} (hw:M.wf) {l:Int} {lo hi e e':Edge} (h:Pair f M l lo hi e) (h':Pair f M l lo hi e'):e=e':=by
 rcases h.up with h1 | ⟨r,h1,h2,h3⟩
 ·rcases h'.up with h4 | ⟨r',h4,_,_⟩
  ·rw [h1] at h4;cases h4;rfl
  ·rw [h1] at h4;cases h4
 ·rcases h'.up with h4 | ⟨r',h4,h5,h6⟩
  ·rw [h1] at h4;cases h4
  ·rw [h1] at h4
   cases h4
   have ht:e.to=e'.to:=hw.once r e.to e'.to h2 h5
   cases e;cases e'
   simp only at ht h3 h6
   rw [ht,h3,h6]

theorem Pair.inj {f:Int} {M:St} (hw:M.wf) {l:Int} {lo hi lo' hi' e:Edge} (h:Pair f M l lo hi e) (h':Pair f M l lo' hi' e):lo=lo' ∧ hi=hi':=by
 rcases h.down with h1 | ⟨q,h1,h2,h3,h4⟩
 ·rcases h'.down with g1 | ⟨q',g1,_⟩
  ·rw [h1] at g1;cases g1;exact ⟨rfl,rfl⟩
  ·rw [h1] at g1;cases g1
 ·rcases h'.down with g1 | ⟨q',g1,g2,g3,g4⟩
  ·rw [h1] at g1;cases g1
  ·rw [h1] at g1
   cases g1
   have ht:lo.to=lo'.to:=hw.once q lo.to lo'.to h2 g2
   have hl:lo=lo':=by
    cases lo;cases lo'
    simp only at ht h3 g3
    rw [ht,h3,g3]
   subst hl
   exact ⟨rfl,by rw [h4,g4]⟩

theorem endE_inj {f:Int} {b b':Bool} {l:Int} (h:endE f b l=endE f b' l):b=b':=by
 have key:∀ b:Bool,(endE f b l).to=if b then 1 else 0:=by
  intro b
  unfold endE
  cases b
  ·rfl
  ·by_cases h5:f=5
   ·rw [if_pos rfl,if_pos h5];rfl
   ·rw [if_pos rfl,if_neg h5];rfl
 have:=congrArg Edge.to h
 rw [key,key] at this
 cases b <;> cases b' <;> first | rfl | (exfalso;revert this;decide)

theorem endE_leads {M:St} (h:M.wf) {f:Int} {b:Bool} (hf:1 ≤ f ∧ f ≤ 5):M.leads f (endE f b M.n) M.n=true:=by
 have n0:=h.n0
 have n16:=h.n16
 have hlt:(endE f b M.n).to < 2:=by
  unfold endE
  split
  ·split
   ·show (1:Int) < 2;omega
   ·show (1:Int) < 2;omega
  ·show (0:Int) < 2;omega
 refine leads_iff.2 ⟨plainB_iff.2 ⟨by omega,by omega,n0,n16,n0,by omega,fun hh=>?_,fun h5 hz=>?_⟩,.inl hlt⟩
 ·unfold endE at hh ⊢
  split at hh
  ·split at hh
   ·rename_i h5
    rcases hh with hh | hh
    ·exact absurd h5 hh
    ·have hh2:(1:Int)=0:=hh
     omega
   ·rw [if_pos (by assumption),if_neg (by assumption)]
  ·rw [if_neg (by assumption)]
 ·unfold endE at hz ⊢
  split at hz
  ·rw [if_pos (by assumption),if_pos h5]
   exact ⟨by show M.n ≤ M.n;omega,by show M.n ≤ M.n;omega⟩
  ·exact absurd rfl hz

def IsT (f:Int) (M:St):Nat → List Bool → Int → Edge → Prop
 | 0,ts,l,e=>∃ b,ts=[b] ∧ e=endE f b l
 | k + 1,ts,l,e=>ts.length=2 ^ (k + 1) ∧ ∃ lo hi,IsT f M k (ts.take (2 ^ k)) (l + 1) lo ∧ IsT f M k (ts.drop (2 ^ k)) (l + 1) hi ∧ Pair f M l lo hi e

theorem IsT.length {f:Int} {M:St}:∀ {k:Nat} {ts:List Bool} {l:Int} {e:Edge},IsT f M k ts l e → ts.length=2 ^ k:=by
 intro k ts l e h
 cases k with
 | zero=>obtain ⟨b,rfl,_⟩:=h;rfl
 | succ k=>exact h.1

theorem IsT.inj {f:Int} {M:St} (hw:M.wf):∀ (k:Nat) (ts ts':List Bool) (l:Int) (e:Edge),IsT f M k ts l e → IsT f M k ts' l e → ts=ts':=by
 intro k
 induction k with
 | zero=>
  intro ts ts' l e h h'
  obtain ⟨b,rfl,h2⟩:=h
  obtain ⟨b',rfl,h4⟩:=h'
  rw [endE_inj (f:=f) (l:=l) (b:=b) (b':=b') (by rw [← h2,← h4])]
 | succ k ih=>
  intro ts ts' l e h h'
  obtain ⟨_,lo,hh,h1,h2,h3⟩:=h
  obtain ⟨_,lo',hh',g1,g2,g3⟩:=h'
  obtain ⟨rfl,rfl⟩:=h3.inj hw g3
  rw [← List.take_append_drop (2 ^ k) ts,← List.take_append_drop (2 ^ k) ts',ih _ _ _ _ h1 g1,ih _ _ _ _ h2 g2]

theorem IsT.det {f:Int} {M:St} (hw:M.wf):∀ (k:Nat) (ts:List Bool) (l:Int) (e e':Edge),IsT f M k ts l e → IsT f M k ts l e' → e=e':=by
 intro k
 induction k with
 | zero=>
  intro ts l e e' h h'
  obtain ⟨b,rfl,h2⟩:=h
  obtain ⟨b',h3,h4⟩:=h'
  cases h3
  rw [h2,h4]
 | succ k ih=>
  intro ts l e e' h h'
  obtain ⟨_,lo,hh,h1,h2,h3⟩:=h
  obtain ⟨_,lo',hh',g1,g2,g3⟩:=h'
  have a1:=ih _ _ _ _ h1 g1
  have a2:=ih _ _ _ _ h2 g2
  subst a1
  subst a2
  exact h3.det hw g3

theorem IsT.leads {f:Int} {M:St} (hw:M.wf) (hf:1 ≤ f ∧ f ≤ 5) {k:Nat} {ts:List Bool} {l:Int} {e:Edge} (h:IsT f M k ts l e) (hl:l + k=M.n):M.leads f e l=true:=by
 cases k with
 | zero=>
  obtain ⟨b,_,rfl⟩:=h
  have:l=M.n:=by simpa using hl
  rw [this]
  exact endE_leads hw hf
 | succ k=>obtain ⟨_,_,_,_,_,h3⟩:=h;exact h3.leads

theorem IsT.top {f:Int} {M:St} (hw:M.wf) (hf:1 ≤ f ∧ f ≤ 5) {k:Nat} {ts:List Bool} {l:Int} {e:Edge} (h:IsT f M k ts l e) (hl:l + k=M.n) {r:Rec} (hr:look M.cs e.to=some r):l ≤ r.top:=
 (leads_some (h.leads hw hf hl) hr).2.1

theorem noneL_append:∀ (a b:List Bool),noneL (a ++ b)=(noneL a && noneL b):=by
 intro a
 induction a with
 | nil=>intro b;rfl
 | cons x a ih=>
  intro b
  show (!x && noneL (a ++ b))=((!x && noneL a) && noneL b)
  rw [ih,Bool.and_assoc]

theorem noneL_halves (p:Nat) (ts:List Bool):noneL ts=(noneL (ts.take p) && noneL (ts.drop p)):=by
 rw [← noneL_append,List.take_append_drop]

theorem sameL_false {s t:List Bool}:sameL s t=false ↔ s ≠ t:=by
 rw [← Bool.not_eq_true,sameL_iff]

end Go.Proofs.YtfpjogpjocedaaaGreat
