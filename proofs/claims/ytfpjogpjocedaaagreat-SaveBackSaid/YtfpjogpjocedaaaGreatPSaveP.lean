/-
  Plainly: the nodes that an edge reaches by their numbers, and the bytes of an edge.
-/
import Derived.Test.YtfpjogpjocedaaaGreatPHPlainA
namespace Go.Proofs.YtfpjogpjocedaaaGreat
set_option linter.unusedSimpArgs false
set_option linter.unusedVariables false
set_option maxHeartbeats 600000

def FitA (M:St):Prop:=∀ id r,look M.cs id=some r → r.ok

def numG (cs:List (Option Rec)):Nat → Int → List Int → List Int
 | 0,_,S=>S
 | k + 1,id,S=>if id ∈ S then S else match look cs id with
  | none=>S
  | some r=>numG cs k r.hi.to (numG cs k r.lo.to S) ++ [id]

def numM (M:St) (id:Int) (S:List Int):List Int:=numG M.cs 17 id S

def Under (M:St) (id:Int) (k:Nat):Prop:=∀ r,look M.cs id=some r → M.n - r.top ≤ (k:Int)

theorem save_top {M:St} (h:M.wf) {id:Int} {r:Rec} (hl:look M.cs id=some r):(∀ x,look M.cs r.lo.to=some x → r.top < x.top) ∧ (∀ x,look M.cs r.hi.to=some x → r.top < x.top):=by
 have g:=h.goodRec hl
 have tb:=g.tb
 refine ⟨fun x hx=>?_,fun x hx=>?_⟩
 ·rcases (leads_iff.1 g.lo).2 with h2 | ⟨r',a,_,c,_⟩
  ·rw [look_low h2] at hx;cases hx
  ·rw [a] at hx;cases hx;omega
 ·rcases (leads_iff.1 g.hi).2 with h2 | ⟨r',a,_,c,_⟩
  ·rw [look_low h2] at hx;cases hx
  ·rw [a] at hx;cases hx;omega

theorem save_in {M:St} (h:M.wf) {id:Int} {r:Rec} (hl:look M.cs id=some r):(r.lo.to < 2 ∨ look M.cs r.lo.to ≠ none) ∧ (r.hi.to < 2 ∨ look M.cs r.hi.to ≠ none):=by
 have g:=h.goodRec hl
 refine ⟨?_,?_⟩
 ·rcases (leads_iff.1 g.lo).2 with h2 | ⟨r',a,_,c,_⟩
  ·exact .inl h2
  ·exact .inr (by rw [a];simp)
 ·rcases (leads_iff.1 g.hi).2 with h2 | ⟨r',a,_,c,_⟩
  ·exact .inl h2
  ·exact .inr (by rw [a];simp)

theorem Under.top {M:St} (h:M.wf) {id:Int} {r:Rec} (hl:look M.cs id=some r) {k:Nat} (hu:Under M id (k + 1)):Under M r.lo.to k ∧ Under M r.hi.to k:=by
 have h1:=hu r hl
 obtain ⟨c1,c2⟩:=save_top h hl
 refine ⟨fun x hx=>?_,fun x hx=>?_⟩
 ·have:=c1 x hx;push_cast at h1;omega
 ·have:=c2 x hx;push_cast at h1;omega

theorem Under.zero {M:St} (h:M.wf) {id:Int} (hu:Under M id 0):look M.cs id=none:=by
 cases hl:look M.cs id with
 | none=>rfl
 | some r=>
  have g:=h.goodRec hl
  have:=hu r hl
  have tb:=g.tb
  have bn:=g.bn
  simp only [Int.natCast_zero] at this
  omega

theorem num_none {cs:List (Option Rec)} {k:Nat} {id:Int} {S:List Int} (h:look cs id=none):numG cs k id S=S:=by
 cases k with
 | zero=>rfl
 | succ k=>
  unfold numG
  rw [h]
  split <;> rfl

theorem numG_fuel {M:St} (h:M.wf):∀ (k k':Nat) (id:Int) (S:List Int),Under M id k → Under M id k' → numG M.cs k id S=numG M.cs k' id S:=by
 intro k
 induction k with
 | zero=>intro k' id S h1 _;rw [num_none (h1.zero h),num_none (h1.zero h)]
 | succ k ih=>
  intro k' id S h1 h2
  cases k' with
  | zero=>rw [num_none (h2.zero h),num_none (h2.zero h)]
  | succ k'=>
   unfold numG
   cases hl:look M.cs id with
   | none=>rfl
   | some r=>
    obtain ⟨a1,a2⟩:=h1.top h hl
    obtain ⟨b1,b2⟩:=h2.top h hl
    simp only []
    rw [ih k' r.lo.to S a1 b1,ih k' r.hi.to _ a2 b2]

theorem under_all {M:St} (h:M.wf) (hf:FitA M) (id:Int) {k:Nat} (hk:16 ≤ k):Under M id k:=fun r hl=>by
 have n16:=h.n16
 have h0:=(hf id r hl).top
 omega

theorem numM_eq {M:St} (h:M.wf) (hf:FitA M) (id:Int) (S:List Int):numM M id S=if id ∈ S then S else match look M.cs id with
  | none=>S
  | some r=>numM M r.hi.to (numM M r.lo.to S) ++ [id]:=by
 show numG M.cs 17 id S=_
 rw [numG_fuel h 17 18 id S (under_all h hf id (by omega)) (under_all h hf id (by omega))]
 rfl

theorem numM_met {M:St} {id:Int} {S:List Int} (hm:id ∈ S):numM M id S=S:=by
 show numG M.cs 17 id S=S
 unfold numG
 rw [if_pos hm]

theorem numM_none {M:St} {id:Int} {S:List Int} (hl:look M.cs id=none):numM M id S=S:=num_none hl

theorem numM_some {M:St} (h:M.wf) (hf:FitA M) {id:Int} {S:List Int} {r:Rec} (hm:id ∉ S) (hl:look M.cs id=some r):numM M id S=numM M r.hi.to (numM M r.lo.to S) ++ [id]:=by
 rw [numM_eq h hf,if_neg hm,hl]

structure NumOk (M:St) (S:List Int):Prop where
 once:S.Nodup
 known:∀ x ∈ S,look M.cs x ≠ none
 early:∀ (i:Nat) (x:Int) (r:Rec),S[i]?=some x → look M.cs x=some r → (r.lo.to < 2 ∨ r.lo.to ∈ S.take i) ∧ (r.hi.to < 2 ∨ r.hi.to ∈ S.take i)

theorem NumOk.nil (M:St):NumOk M []:=⟨by simp,by simp,by simp⟩

theorem NumOk.shut {M:St} {S:List Int} (h:NumOk M S) (x:Int) (hx:x ∈ S) (r:Rec) (hr:look M.cs x=some r):(r.lo.to < 2 ∨ r.lo.to ∈ S) ∧ (r.hi.to < 2 ∨ r.hi.to ∈ S):=by
 obtain ⟨i,hi⟩:=List.getElem?_of_mem hx
 obtain ⟨a,b⟩:=h.early i x r hi hr
 exact ⟨a.imp (fun hh=>hh) List.mem_of_mem_take,b.imp (fun hh=>hh) List.mem_of_mem_take⟩

theorem NumOk.snoc {M:St} {S:List Int} (h:NumOk M S) {x:Int} {r:Rec} (hn:x ∉ S) (hl:look M.cs x=some r) (h1:r.lo.to < 2 ∨ r.lo.to ∈ S) (h2:r.hi.to < 2 ∨ r.hi.to ∈ S):NumOk M (S ++ [x]):=by
 refine ⟨?_,?_,?_⟩
 ·refine List.nodup_append.2 ⟨h.once,by simp,fun a ha c hc e=>?_⟩
  rw [List.mem_singleton] at hc
  subst e hc
  exact hn ha
 ·intro y hy
  rcases List.mem_append.1 hy with hy | hy
  ·exact h.known y hy
  ·rw [List.mem_singleton] at hy
   rw [hy,hl]
   simp
 ·intro i y r' hi hr'
  by_cases hlt:i < S.length
  ·rw [List.getElem?_append_left hlt] at hi
   rw [List.take_append_of_le_length (by omega)]
   exact h.early i y r' hi hr'
  ·rw [List.getElem?_append_right (by omega)] at hi
   have hz:i - S.length=0:=by
    cases hk:i - S.length with
    | zero=>rfl
    | succ j=>rw [hk] at hi;simp at hi
   rw [hz] at hi
   simp at hi
   subst hi
   rw [hl] at hr'
   cases hr'
   have hi2:i=S.length:=by omega
   rw [hi2,List.take_left]
   exact ⟨h1,h2⟩

structure NumAdd (M:St) (id:Int) (S T:List Int):Prop where
 ok:NumOk M (S ++ T)
 here:look M.cs id ≠ none → id ∈ S ++ T
 low:∀ x ∈ T,∃ r r0,look M.cs x=some r ∧ look M.cs id=some r0 ∧ r0.top ≤ r.top

theorem numG_add {M:St} (h:M.wf):∀ (k:Nat) (id:Int) (S:List Int),Under M id k → NumOk M S → ∃ T,numG M.cs k id S=S ++ T ∧ NumAdd M id S T:=by
 intro k
 induction k with
 | zero=>
  intro id S hu hS
  exact ⟨[],by rw [List.append_nil];rfl,by rw [List.append_nil];exact hS,fun hh=>absurd (hu.zero h) hh,by simp⟩
 | succ k ih=>
  intro id S hu hS
  unfold numG
  by_cases hm:id ∈ S
  ·rw [if_pos hm]
   exact ⟨[],by rw [List.append_nil],by rw [List.append_nil];exact hS,fun _=>List.mem_append_left _ hm,by simp⟩
  ·rw [if_neg hm]
   cases hl:look M.cs id with
   | none=>exact ⟨[],by rw [List.append_nil],by rw [List.append_nil];exact hS,fun hh=>absurd hl hh,by simp⟩
   | some r=>
    simp only []
    obtain ⟨u1,u2⟩:=hu.top h hl
    obtain ⟨c1,c2⟩:=save_top h hl
    obtain ⟨k1,k2⟩:=save_in h hl
    obtain ⟨T,e1,a1⟩:=ih r.lo.to S u1 hS
    obtain ⟨U,e2,a2⟩:=ih r.hi.to (S ++ T) u2 a1.ok
    rw [e1,e2]
    have hno:id ∉ S ++ T ++ U:=by
     intro hi
     rcases List.mem_append.1 hi with hi | hi
     ·rcases List.mem_append.1 hi with hi | hi
      ·exact hm hi
      ·obtain ⟨x,x0,q1,q2,q3⟩:=a1.low id hi
       rw [hl] at q1
       cases q1
       have:=c1 x0 q2
       omega
     ·obtain ⟨x,x0,q1,q2,q3⟩:=a2.low id hi
      rw [hl] at q1
      cases q1
      have:=c2 x0 q2
      omega
    refine ⟨T ++ U ++ [id],by simp only [List.append_assoc],?_,fun _=>by simp,?_⟩
    ·have e3:S ++ (T ++ U ++ [id])=(S ++ T ++ U) ++ [id]:=by simp only [List.append_assoc]
     rw [e3]
     exact a2.ok.snoc hno hl (k1.imp (fun hh=>hh) (fun hh=>List.mem_append_left _ (a1.here hh))) (k2.imp (fun hh=>hh) (fun hh=>a2.here hh))
    ·intro x hx
     rcases List.mem_append.1 hx with hx | hx
     ·rcases List.mem_append.1 hx with hx | hx
      ·obtain ⟨y,y0,q1,q2,q3⟩:=a1.low x hx
       have:=c1 y0 q2
       exact ⟨y,r,q1,hl,by omega⟩
      ·obtain ⟨y,y0,q1,q2,q3⟩:=a2.low x hx
       have:=c2 y0 q2
       exact ⟨y,r,q1,hl,by omega⟩
     ·rw [List.mem_singleton] at hx
      subst hx
      exact ⟨r,r,hl,hl,Int.le_refl _⟩

theorem numM_add {M:St} (h:M.wf) (hf:FitA M) (id:Int) {S:List Int} (hS:NumOk M S):∃ T,numM M id S=S ++ T ∧ NumAdd M id S T:=numG_add h 17 id S (under_all h hf id (by omega)) hS

theorem NumOk.next {M:St} {S:List Int} (hS:NumOk M S) (h:M.wf) (hf:FitA M) (id:Int):NumOk M (numM M id S):=by
 obtain ⟨T,e,a⟩:=numM_add h hf id hS
 rw [e]
 exact a.ok

theorem numM_sub {M:St} (h:M.wf) (hf:FitA M) (id:Int) {S:List Int} (hS:NumOk M S) {x:Int} (hx:x ∈ S):x ∈ numM M id S:=by
 obtain ⟨T,e,a⟩:=numM_add h hf id hS
 rw [e]
 exact List.mem_append_left _ hx

theorem numM_here {M:St} (h:M.wf) (hf:FitA M) {id:Int} {S:List Int} (hS:NumOk M S) (hl:look M.cs id ≠ none):id ∈ numM M id S:=by
 obtain ⟨T,e,a⟩:=numM_add h hf id hS
 rw [e]
 exact a.here hl

theorem numM_own {M:St} (h:M.wf) (hf:FitA M) {id:Int} {S:List Int} {r:Rec} (hS:NumOk M S) (hm:id ∉ S) (hl:look M.cs id=some r):id ∉ numM M r.hi.to (numM M r.lo.to S) ∧ (r.lo.to < 2 ∨ r.lo.to ∈ numM M r.hi.to (numM M r.lo.to S)) ∧ (r.hi.to < 2 ∨ r.hi.to ∈ numM M r.hi.to (numM M r.lo.to S)):=by
 have hS1:=hS.next h hf r.lo.to
 have hS2:=hS1.next h hf r.hi.to
 obtain ⟨k1,k2⟩:=save_in h hl
 refine ⟨?_,k1.imp (fun hh=>hh) (fun hh=>numM_sub h hf _ hS1 (numM_here h hf hS hh)),k2.imp (fun hh=>hh) (numM_here h hf hS1)⟩
 have h3:=hS.next h hf id
 rw [numM_some h hf hm hl] at h3
 have:=h3.once
 rw [List.nodup_append] at this
 exact fun hi=>this.2.2 id hi id (by simp) rfl

def edgeB (f:Int) (S:List Int) (e:Edge):List Int:=
 putB (if e.to < 2 then e.to.toNat else S.idxOf e.to + 2) ++ (if f=5 ∧ 0 < e.to then putB e.tag.toNat else [])

def recB (f:Int) (S:List Int) (r:Rec):List Int:=
 putB r.top.toNat ++ (if f=3 ∨ f=4 then putB r.bot.toNat else []) ++ edgeB f S r.lo ++ edgeB f S r.hi

def recsB (M:St) (f:Int) (S:List Int):List Int:=S.flatMap (fun x=>recB f S (grec (look M.cs x)))

theorem idxOf_app {S T:List Int} {x:Int} (h:x ∈ S):(S ++ T).idxOf x=S.idxOf x:=by rw [List.idxOf_append,if_pos h]

theorem flatMap_same {α β:Type} (g g':α → List β):∀ (S:List α),(∀ x ∈ S,g x=g' x) → S.flatMap g=S.flatMap g':=by
 intro S
 induction S with
 | nil=>intro _;rfl
 | cons x S ih=>
  intro h
  rw [List.flatMap_cons,List.flatMap_cons,h x (by simp),ih (fun y hy=>h y (List.mem_cons_of_mem _ hy))]

theorem edgeB_app {f:Int} {S T:List Int} {e:Edge} (h:e.to < 2 ∨ e.to ∈ S):edgeB f (S ++ T) e=edgeB f S e:=by
 unfold edgeB
 rcases h with h | h
 ·rw [if_pos h,if_pos h]
 ·rw [idxOf_app h]

theorem recB_app {f:Int} {S T:List Int} {r:Rec} (h1:r.lo.to < 2 ∨ r.lo.to ∈ S) (h2:r.hi.to < 2 ∨ r.hi.to ∈ S):recB f (S ++ T) r=recB f S r:=by
 unfold recB
 rw [edgeB_app h1,edgeB_app h2]

theorem recsB_snoc {M:St} {f:Int} {S:List Int} {id:Int} {r:Rec} (hS:NumOk M S) (hl:look M.cs id=some r) (h1:r.lo.to < 2 ∨ r.lo.to ∈ S) (h2:r.hi.to < 2 ∨ r.hi.to ∈ S):recsB M f (S ++ [id])=recsB M f S ++ recB f S r:=by
 unfold recsB
 rw [List.flatMap_append,List.flatMap_singleton,hl]
 congr 1
 ·refine flatMap_same _ _ S fun x hx=>?_
  cases hk:look M.cs x with
  | none=>exact absurd hk (hS.known x hx)
  | some y=>
   obtain ⟨s1,s2⟩:=hS.shut x hx y hk
   exact recB_app s1 s2
 ·exact recB_app h1 h2

theorem edgeB_len {f:Int} {S:List Int} {e:Edge} (he:e.ok) (hS:S.length ≤ 1048576):(edgeB f S e).length ≤ 20:=by
 obtain ⟨⟨a1,a2⟩,b1,b2⟩:=he
 have hi:S.idxOf e.to ≤ S.length:=List.idxOf_le_length
 unfold edgeB
 rw [List.length_append]
 have h1:(putB (if e.to < 2 then e.to.toNat else S.idxOf e.to + 2)).length ≤ 10:=putB_len10 (by split <;> omega)
 have h2:(if f=5 ∧ 0 < e.to then putB e.tag.toNat else []).length ≤ 10:=by
  split
  ·exact putB_len10 (by omega)
  ·simp
 omega

theorem recB_len {f:Int} {S:List Int} {r:Rec} (hr:r.ok) (hS:S.length ≤ 1048576):(recB f S r).length ≤ 60:=by
 have h1:=edgeB_len (f:=f) hr.lo hS
 have h2:=edgeB_len (f:=f) hr.hi hS
 have t:=hr.top
 have b:=hr.bot
 have h3:(putB r.top.toNat).length ≤ 10:=putB_len10 (by omega)
 have h4:(if f=3 ∨ f=4 then putB r.bot.toNat else []).length ≤ 10:=by
  split
  ·exact putB_len10 (by omega)
  ·simp
 unfold recB
 rw [List.length_append,List.length_append,List.length_append]
 omega

theorem flat_len {α:Type} (g:α → List Int) (c:Nat):∀ (l:List α),(∀ x ∈ l,(g x).length ≤ c) → (l.flatMap g).length ≤ c * l.length:=by
 intro l
 induction l with
 | nil=>intro _;simp
 | cons x l ih=>
  intro h
  rw [List.flatMap_cons,List.length_append,List.length_cons,Nat.mul_succ]
  have h1:=h x (by simp)
  have h2:=ih (fun y hy=>h y (List.mem_cons_of_mem _ hy))
  omega

theorem recsB_len {M:St} {f:Int} {S:List Int} (hr:FitA M) (hS:S.length ≤ 1048576):(recsB M f S).length ≤ 60 * S.length:=by
 refine flat_len _ 60 S fun x _=>?_
 cases hl:look M.cs x with
 | none=>exact recB_len Rec.zero_ok hS
 | some r=>exact recB_len (hr x r hl) hS

def saveB (M:St) (ps:List Int) (f:Int) (e:Edge):List Int:=
 putB M.n.toNat ++ putB f.toNat ++ ps.flatMap (fun x=>putB x.toNat) ++ putB (numM M e.to []).length ++ recsB M f (numM M e.to []) ++ edgeB f (numM M e.to []) e

end Go.Proofs.YtfpjogpjocedaaaGreat
