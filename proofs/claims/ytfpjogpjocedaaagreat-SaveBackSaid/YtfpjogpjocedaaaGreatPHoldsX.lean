/-
  What an assignment has at levels: Value, clear, free, side; may.
-/
import Derived.Test.YtfpjogpjocedaaaGreatPCube
import Derived.Test.YtfpjogpjocedaaaGreatPTwoBase
namespace Go.Proofs.YtfpjogpjocedaaaGreat
set_option linter.unusedSimpArgs false
set_option linter.unusedVariables false
set_option maxHeartbeats 600000
open Go.RowKit

def bitB (x k:Int):Bool:=decide (x / 2 ^ k.toNat % 2=1)

def clearN (x a:Int):Nat → Bool
 | 0=>true
 | n + 1=>!bitB x a && clearN x (a + 1) n

def someB (x:Int) (r:Rec):Bool:=if r.form=3 then !clearN x r.top (r.bot + 1 - r.top).toNat else bitB x r.bot

def sideE (x:Int) (r:Rec):Edge:=if someB x r then r.hi else r.lo

def zeroAt (f:Int) (e:Edge) (l:Int):Bool:=decide (f=2) || decide (f=4) || (decide (f=5) && decide (e.tag ≤ l))

def hS (M:St) (f x:Int):Nat → Int → Edge → Bool
 | 0,_,e=>decide (e.to ≠ 0)
 | k + 1,l,e=>if e.to=0 then false else if M.n ≤ l then true else match look M.cs e.to with
  | none=>if zeroAt f e l && bitB x l then false else hS M f x k (l + 1) e
  | some r=>if l < r.top then (if zeroAt f e l && bitB x l then false else hS M f x k (l + 1) e) else hS M f x k (r.bot + 1) (sideE x r)

theorem side_leads {M:St} (h:M.wf) {id x:Int} {r:Rec} (hl:look M.cs id=some r):M.leads r.form (sideE x r) (r.bot + 1)=true:=by
 have g:=h.goodRec hl
 unfold sideE
 split
 ·exact g.hi
 ·exact g.lo

theorem mkK_ext {M M':St} (hE:Ext M M') {f l:Int} {lo hi:Edge} (h1:M.leads f lo (l + 1)=true) (h2:M.leads f hi (l + 1)=true) (hf:1 ≤ f ∧ f ≤ 5):mkK f M' l lo hi=mkK f M l lo hi:=by
 have a:=hE.leads h1
 have b:=hE.leads h2
 have c:=hE.same h1
 have hff:f=1 ∨ f=2 ∨ f=3 ∨ f=4 ∨ f=5:=by omega
 rcases hff with rfl | rfl | rfl | rfl | rfl
 ·rw [mkK1,mkK1]
  unfold makeAct bRest
  rw [hE.n,a,b,h1,h2]
 ·rw [mkK2,mkK2]
  unfold makeAct zRest
  rw [hE.n,a,b,h1,h2]
 ·rw [mkK3,mkK3]
  unfold makeAct cRest
  rw [hE.n,a,b,h1,h2,c]
 ·rw [mkK4,mkK4]
  unfold makeAct qRest
  rw [hE.n,a,b,h1,h2,c]
 ·rw [mkK5,mkK5]
  unfold tAct
  rw [hE.n,a,b,h1,h2]

theorem Pair.ext {f:Int} {M M':St} {l:Int} {lo hi e:Edge} (h:Pair f M l lo hi e) (hE:Ext M M') (hf:1 ≤ f ∧ f ≤ 5):Pair f M' l lo hi e:=by
 refine ⟨?_,?_,hE.leads h.leads,hE.leads h.lo,hE.leads h.hi⟩
 ·rw [mkK_ext hE h.lo h.hi hf]
  rcases h.up with u | ⟨r,u1,u2,u3⟩
  ·exact .inl u
  ·exact .inr ⟨r,u1,hE.sub _ _ u2,u3⟩
 ·rw [view_ext hE h.leads]
  rcases h.down with u | ⟨r,u1,u2,u3⟩
  ·exact .inl u
  ·exact .inr ⟨r,u1,hE.sub _ _ u2,u3⟩

theorem IsT.ext {f:Int} {M M':St} (hE:Ext M M') (hf:1 ≤ f ∧ f ≤ 5):∀ (k:Nat) (ts:List Bool) (l:Int) (e:Edge),IsT f M k ts l e → IsT f M' k ts l e:=by
 intro k
 induction k with
 | zero=>intro ts l e h;exact h
 | succ k ih=>
  intro ts l e h
  obtain ⟨hl,lo,hi,h1,h2,h3⟩:=h
  exact ⟨hl,lo,hi,ih _ _ _ h1,ih _ _ _ h2,h3.ext hE hf⟩

def rightK (M:St) (f:Int) (e:Edge) (l:Int):Prop:=f=3 ∨ f=4 ∨ f=5 → rightL M f e l=true

structure MakesK (f:Int) (M:St) (l:Int) (lo hi:Edge):Prop where
 err:actErr M (mkK f M l lo hi)=0
 pair:Pair f (actSt M (mkK f M l lo hi)) l lo hi (mkE f M (mkK f M l lo hi))
 grown:GrownBy M (actSt M (mkK f M l lo hi)) 1
 right:rightK (actSt M (mkK f M l lo hi)) f (mkE f M (mkK f M l lo hi)) l

theorem Makes.all {f:Int} {M:St} {l:Int} {lo hi:Edge} (h:Makes f M l lo hi) (hf:f=3 ∨ f=4 ∨ f=5):MakesK f M l lo hi:=by
 have e:mkK f M l lo hi=mkA f M l lo hi:=by rcases hf with rfl | rfl | rfl <;> rfl
 refine ⟨by rw [e];exact h.err,by rw [e];exact h.both.pair hf,by rw [e];exact h.grown,fun _=>by rw [e];exact h.both.right⟩

theorem nodeK {f:Int} {M:St} {l:Int} {lo hi:Edge} (h:M.wf) (hf:f=1 ∨ f=2) (h0:0 ≤ l) (h1:l < M.n) (hroom:M.len < M.room) (a1:M.leads f lo (l + 1)=true) (b1:M.leads f hi (l + 1)=true)
  (hm:mkK f M l lo hi=.inr ⟨f,l,l,lo,hi⟩) (hgood:M.bad ⟨f,l,l,lo,hi⟩=false):MakesK f M l lo hi:=by
 obtain ⟨w1,w2,w3,w4,w5,w6⟩:=find_good h hgood hroom
 have hE:=find_ext h hgood hroom
 have n16:=h.n16
 have n0:=h.n0
 have e2:actSt M (mkK f M l lo hi)=M.findSt ⟨f,l,l,lo,hi⟩:=by rw [hm];rfl
 have e1:mkE f M (mkK f M l lo hi)=⟨0,M.findId ⟨f,l,l,lo,hi⟩⟩:=by
  rw [hm]
  unfold mkE
  rw [if_neg (by omega)]
  exact foundE_ok w1
 have hl:(M.findSt ⟨f,l,l,lo,hi⟩).leads f ⟨0,M.findId ⟨f,l,l,lo,hi⟩⟩ l=true:=
  leads_iff.2 ⟨plainB_iff.2 ⟨by omega,by omega,by rw [w4];exact n0,by rw [w4];exact n16,h0,by rw [w4];omega,fun _=>rfl,fun h5=>by omega⟩,.inr ⟨_,w2,rfl,Int.le_refl _,h0⟩⟩
 refine ⟨by rw [hm];exact w1,?_,by rw [e2];exact grown_find h hgood hroom,fun hh=>by omega⟩
 rw [e1,e2]
 refine ⟨.inr ⟨_,?_,w2,by unfold tagOf;rw [if_neg (by omega)]⟩,?_,hl,hE.leads a1,hE.leads b1⟩
 ·rw [mkK_ext hE a1 b1 (by omega)]
  exact hm
 ·left
  unfold viewAct
  rw [if_neg (by rw [w4];omega),if_neg (by rw [hl];simp),if_neg (by omega)]
  show (match look (M.findSt ⟨f,l,l,lo,hi⟩).cs (M.findId ⟨f,l,l,lo,hi⟩) with | none=>_ | some r=>_)=_
  rw [w2]
  show (if l < l then _ else if (f=3 ∨ f=4) ∧ l ≠ l then _ else _)=_
  rw [if_neg (by omega),if_neg (by omega)]

theorem sameK {f:Int} {M:St} {l:Int} {lo hi:Edge} (h:M.wf) (hf:f=1 ∨ f=2) (h0:0 ≤ l) (h1:l < M.n) (a1:M.leads f lo (l + 1)=true) (b1:M.leads f hi (l + 1)=true)
  (hm:mkK f M l lo hi=.inl (lo,0)) (hv:vOut f l lo=(lo,hi,0)):MakesK f M l lo hi:=by
 have e2:actSt M (mkK f M l lo hi)=M:=by rw [hm];rfl
 have e1:mkE f M (mkK f M l lo hi)=lo:=by
  rw [hm]
  unfold mkE
  split <;> rfl
 have hd:=leads_down a1 h0 (show l ≤ l + 1 by omega)
 refine ⟨by rw [hm];rfl,?_,by rw [e2];exact GrownBy.refl h (by omega),fun hh=>by omega⟩
 rw [e1,e2]
 refine ⟨.inl hm,.inl ?_,hd,a1,b1⟩
 unfold viewAct
 rw [if_neg (by omega),if_neg (by rw [hd];simp),if_neg (by omega)]
 cases hk:look M.cs lo.to with
 | none=>simp only [];rw [hv]
 | some r=>
  obtain ⟨f1,f2,f3⟩:=leads_some a1 hk
  simp only []
  rw [if_pos (by omega),hv]

theorem makes1 {M:St} (h:M.wf) {l:Int} {lo hi:Edge} (h0:0 ≤ l) (h1:l < M.n) (hroom:M.len < M.room) (a1:M.leads 1 lo (l + 1)=true) (b1:M.leads 1 hi (l + 1)=true):MakesK 1 M l lo hi:=by
 have nv:¬ (l < 0 ∨ M.n ≤ l):=by omega
 have nl:¬ (M.leads 1 lo (l + 1)=false ∨ M.leads 1 hi (l + 1)=false):=by rw [a1,b1];simp
 by_cases c:lo=hi
 ·refine sameK h (.inl rfl) h0 h1 a1 b1 (by rw [mkK1];unfold makeAct bRest;rw [if_neg nv,if_neg nl,if_pos c]) ?_
  subst c
  rfl
 ·exact nodeK h (.inl rfl) h0 h1 hroom a1 b1 (by rw [mkK1];unfold makeAct bRest;rw [if_neg nv,if_neg nl,if_neg c]) (node_good (f:=1) h0 h1 a1 b1 (by omega) (fun _ _=>c))

theorem makes2 {M:St} (h:M.wf) {l:Int} {lo hi:Edge} (h0:0 ≤ l) (h1:l < M.n) (hroom:M.len < M.room) (a1:M.leads 2 lo (l + 1)=true) (b1:M.leads 2 hi (l + 1)=true):MakesK 2 M l lo hi:=by
 have nv:¬ (l < 0 ∨ M.n ≤ l):=by omega
 have nl:¬ (M.leads 2 lo (l + 1)=false ∨ M.leads 2 hi (l + 1)=false):=by rw [a1,b1];simp
 obtain ⟨s1,s2,s3,s4,s5,s6,s7,s8⟩:=plainB_iff.1 (leads_iff.1 b1).1
 by_cases c:hi.to=0
 ·refine sameK h (.inr rfl) h0 h1 a1 b1 (by rw [mkK2];unfold makeAct zRest;rw [if_neg nv,if_neg nl,if_pos c]) ?_
  have hiz:hi=⟨0,0⟩:=by
   have:=s7 (.inl (by decide))
   cases hi
   simp at this c
   rw [this,c]
  rw [hiz]
  rfl
 ·exact nodeK h (.inr rfl) h0 h1 hroom a1 b1 (by rw [mkK2];unfold makeAct zRest;rw [if_neg nv,if_neg nl,if_neg c]) (node_good (f:=2) h0 h1 a1 b1 (fun _=>c) (by omega))

theorem makesK {f:Int} {M:St} (h:M.wf) {l:Int} {lo hi:Edge} (hf:1 ≤ f ∧ f ≤ 5) (h0:0 ≤ l) (h1:l < M.n) (hroom:M.len < M.room) (a1:M.leads f lo (l + 1)=true) (b1:M.leads f hi (l + 1)=true)
  (hlo:rightK M f lo (l + 1)) (hhi:rightK M f hi (l + 1)):MakesK f M l lo hi:=by
 have hff:f=1 ∨ f=2 ∨ f=3 ∨ f=4 ∨ f=5:=by omega
 rcases hff with rfl | rfl | rfl | rfl | rfl
 ·exact makes1 h h0 h1 hroom a1 b1
 ·exact makes2 h h0 h1 hroom a1 b1
 ·exact (makes3 h h0 h1 hroom (hlo (.inl rfl)) (hhi (.inl rfl))).all (.inl rfl)
 ·exact (makes4 h h0 h1 hroom (hlo (.inr (.inl rfl))) (hhi (.inr (.inl rfl)))).all (.inr (.inl rfl))
 ·exact (makes5 h h0 h1 hroom (hlo (.inr (.inr rfl))) (hhi (.inr (.inr rfl)))).all (.inr (.inr rfl))

theorem rightK_ext {M M':St} (hE:Ext M M') (h:M.wf) {f:Int} {e:Edge} {l:Int} (hr:rightK M f e l):rightK M' f e l:=fun hf=>right_ext hE h (hr hf)

theorem endE_rightK {M:St} (h:M.wf) {f:Int} {b:Bool}:rightK M f (endE f b M.n) M.n:=fun hf=>endE_right h hf

theorem kAct_mkK {M:St} {f l:Int} {lo hi:Edge} (hf:1 ≤ f ∧ f ≤ 5):kAct M f l lo hi=mkK f M l lo hi:=by
 have hff:f=1 ∨ f=2 ∨ f=3 ∨ f=4 ∨ f=5:=by omega
 rcases hff with rfl | rfl | rfl | rfl | rfl <;> rfl

theorem mkK_ok {f:Int} {M:St} {l:Int} {lo hi:Edge} (h:M.wf) (hf:M.cs.length ≤ 1048576) (hlo:lo.ok) (hhi:hi.ok) (h0:0 ≤ l) (h1:l ≤ 255) (hff:1 ≤ f ∧ f ≤ 5):(mkE f M (mkK f M l lo hi)).ok:=by
 have hc:f=1 ∨ f=2 ∨ f=3 ∨ f=4 ∨ f=5:=by omega
 rcases hc with rfl | rfl | hc | hc | hc
 ·rw [mkK1]
  show (actE0 M _).ok
  unfold makeAct bRest
  repeat' split
  all_goals first | exact edge0_ok | exact hlo | exact foundE_fit h hf 0 (by omega) _
 ·rw [mkK2]
  show (actE0 M _).ok
  unfold makeAct zRest
  repeat' split
  all_goals first | exact edge0_ok | exact hlo | exact foundE_fit h hf 0 (by omega) _
 ·have e:mkK f M l lo hi=mkA f M l lo hi:=by subst hc;rfl
  rw [e];exact mkE_ok h hf hlo hhi h0 h1 (.inl hc)
 ·have e:mkK f M l lo hi=mkA f M l lo hi:=by subst hc;rfl
  rw [e];exact mkE_ok h hf hlo hhi h0 h1 (.inr (.inl hc))
 ·have e:mkK f M l lo hi=mkA f M l lo hi:=by subst hc;rfl
  rw [e];exact mkE_ok h hf hlo hhi h0 h1 (.inr (.inr hc))

end Go.Proofs.YtfpjogpjocedaaaGreat
