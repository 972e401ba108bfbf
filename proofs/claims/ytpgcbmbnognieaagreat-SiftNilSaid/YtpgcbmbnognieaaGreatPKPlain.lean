/-
  Plainly: an edge made from below of a table, as a list; the same edge just for the same table.
-/
import Derived.Test.YtpgcbmbnognieaaGreatPHPlainA
import Derived.Test.YtpgcbmbnognieaaGreatPUnfBase
namespace Go.Proofs.YtpgcbmbnognieaaGreat
set_option maxRecDepth 1000000
set_option maxHeartbeats 8000000
set_option linter.unusedSimpArgs false
set_option linter.unusedVariables false
open Go.RowKit

def mkK (f:Int)(M:St)(l:Int)(lo hi:Edge):(Edge×Int) ⊕ Rec:=
 if f=5 then tAct M l lo hi else if f=3 then makeAct M 3 l lo hi (cRest M l lo hi) else if f=4 then makeAct M 4 l lo hi (qRest M l lo hi)
 else if f=1 then makeAct M 1 l lo hi (bRest M l lo hi) else makeAct M 2 l lo hi (zRest M l lo hi)

theorem mkK1 (M:St)(l:Int)(lo hi:Edge):mkK 1 M l lo hi=makeAct M 1 l lo hi (bRest M l lo hi):=rfl

theorem mkK2 (M:St)(l:Int)(lo hi:Edge):mkK 2 M l lo hi=makeAct M 2 l lo hi (zRest M l lo hi):=rfl

theorem mkK3 (M:St)(l:Int)(lo hi:Edge):mkK 3 M l lo hi=makeAct M 3 l lo hi (cRest M l lo hi):=rfl

theorem mkK4 (M:St)(l:Int)(lo hi:Edge):mkK 4 M l lo hi=makeAct M 4 l lo hi (qRest M l lo hi):=rfl

theorem mkK5 (M:St)(l:Int)(lo hi:Edge):mkK 5 M l lo hi=tAct M l lo hi:=rfl

structure Pair (f:Int)(M:St)(l:Int)(lo hi e:Edge):Prop where
 up:mkK f M l lo hi=.inl (e,0)∨∃ r,mkK f M l lo hi=.inr r∧look M.cs e.to=some r∧e.tag=tagOf f r
 down:viewAct M f e l=.inl (lo,hi,0)∨∃ q,viewAct M f e l=.inr q∧look M.cs lo.to=some q∧lo.tag=0∧hi=(if f=4 then lo else q.hi)
 leads:M.leads f e l=true
 lo:M.leads f lo (l+1)=true
 hi:M.leads f hi (l+1)=true

theorem Both2.pair {f:Int}{M:St}{l:Int}{lo hi e:Edge}(h:Both2 f M l lo hi e)(hf:f=3∨f=4∨f=5):Pair f M l lo hi e:=by
 refine⟨?_,h.down,(right_iff.1 h.right).1,(right_iff.1 h.lo).1,(right_iff.1 h.hi).1⟩
 have hu:=h.up
 rcases hf with rfl|rfl|rfl<;>exact hu

theorem Pair.det {f:Int}{M:St}(hw:M.wf){l:Int}{lo hi e e':Edge}(h:Pair f M l lo hi e)(h':Pair f M l lo hi e'):e=e':=by
 rcases h.up with h1|⟨r,h1,h2,h3⟩
 ·rcases h'.up with h4|⟨r',h4,_,_⟩
  ·rw [h1] at h4;cases h4;rfl
  ·rw [h1] at h4;cases h4
 ·rcases h'.up with h4|⟨r',h4,h5,h6⟩
  ·rw [h1] at h4;cases h4
  ·rw [h1] at h4
   cases h4
   have ht:e.to=e'.to:=hw.once r e.to e'.to h2 h5
   cases e;cases e'
   simp only at ht h3 h6
   rw [ht,h3,h6]

theorem Pair.inj {f:Int}{M:St}(hw:M.wf){l:Int}{lo hi lo' hi' e:Edge}(h:Pair f M l lo hi e)(h':Pair f M l lo' hi' e):lo=lo'∧hi=hi':=by
 rcases h.down with h1|⟨q,h1,h2,h3,h4⟩
 ·rcases h'.down with g1|⟨q',g1,_⟩
  ·rw [h1] at g1;cases g1;exact⟨rfl,rfl⟩
  ·rw [h1] at g1;cases g1
 ·rcases h'.down with g1|⟨q',g1,g2,g3,g4⟩
  ·rw [h1] at g1;cases g1
  ·rw [h1] at g1
   cases g1
   have ht:lo.to=lo'.to:=hw.once q lo.to lo'.to h2 g2
   have hl:lo=lo':=by
    cases lo;cases lo'
    simp only at ht h3 g3
    rw [ht,h3,g3]
   subst hl
   exact⟨rfl,by rw [h4,g4]⟩

theorem endE_inj {f:Int}{b b':Bool}{l:Int}(h:endE f b l=endE f b' l):b=b':=by
 have key:∀ b:Bool,(endE f b l).to=if b then 1 else 0:=by
  intro b
  unfold endE
  cases b
  ·rfl
  ·by_cases h5:f=5
   ·rw [if_pos rfl,if_pos h5];rfl
   ·rw [if_pos rfl,if_neg h5];rfl
 have:=congrArg Edge.to h
 rw [key,key] at this
 cases b<;>cases b'<;>first|rfl|(exfalso;revert this;decide)

theorem endE_leads {M:St}(h:M.wf){f:Int}{b:Bool}(hf:1≤f∧f≤5):M.leads f (endE f b M.n) M.n=true:=by
 have n0:=h.n0
 have n16:=h.n16
 have hlt:(endE f b M.n).to<2:=by
  unfold endE
  split
  ·split
   ·show(1:Int)<2;omega
   ·show(1:Int)<2;omega
  ·show(0:Int)<2;omega
 refine leads_iff.2 ⟨plainB_iff.2 ⟨by omega,by omega,n0,n16,n0,by omega,fun hh=>?_,fun h5 hz=>?_⟩,.inl hlt⟩
 ·unfold endE at hh ⊢
  split at hh
  ·split at hh
   ·rename_i h5
    rcases hh with hh|hh
    ·exact absurd h5 hh
    ·have hh2:(1:Int)=0:=hh
     omega
   ·rw [if_pos (by assumption),if_neg (by assumption)]
  ·rw [if_neg (by assumption)]
 ·unfold endE at hz ⊢
  split at hz
  ·rw [if_pos (by assumption),if_pos h5]
   exact⟨by show M.n≤M.n;omega,by show M.n≤M.n;omega⟩
  ·exact absurd rfl hz

def IsT (f:Int)(M:St):Nat→List Bool→Int→Edge→Prop
 | 0,ts,l,e=>∃ b,ts=[b]∧e=endE f b l
 | k+1,ts,l,e=>ts.length=2 ^ (k+1)∧∃ lo hi,IsT f M k (ts.take (2 ^ k)) (l+1) lo∧IsT f M k (ts.drop (2 ^ k)) (l+1) hi∧Pair f M l lo hi e

theorem IsT.length {f:Int}{M:St}:∀ {k:Nat} {ts:List Bool} {l:Int} {e:Edge},IsT f M k ts l e→ts.length=2 ^ k:=by
 intro k ts l e h
 cases k with
 | zero=>obtain⟨b,rfl,_⟩:=h;rfl
 | succ k=>exact h.1

theorem IsT.inj {f:Int}{M:St}(hw:M.wf):∀ (k:Nat) (ts ts':List Bool) (l:Int) (e:Edge),IsT f M k ts l e→IsT f M k ts' l e→ts=ts':=by
 intro k
 induction k with
 | zero=>
  intro ts ts' l e h h'
  obtain⟨b,rfl,h2⟩:=h
  obtain⟨b',rfl,h4⟩:=h'
  rw [endE_inj (f:=f) (l:=l) (b:=b) (b':=b') (by rw [← h2,← h4])]
 | succ k ih=>
  intro ts ts' l e h h'
  obtain⟨_,lo,hh,h1,h2,h3⟩:=h
  obtain⟨_,lo',hh',g1,g2,g3⟩:=h'
  obtain⟨rfl,rfl⟩:=h3.inj hw g3
  rw [← List.take_append_drop (2 ^ k) ts,← List.take_append_drop (2 ^ k) ts',ih _ _ _ _ h1 g1,ih _ _ _ _ h2 g2]

theorem IsT.det {f:Int}{M:St}(hw:M.wf):∀ (k:Nat) (ts:List Bool) (l:Int) (e e':Edge),IsT f M k ts l e→IsT f M k ts l e'→e=e':=by
 intro k
 induction k with
 | zero=>
  intro ts l e e' h h'
  obtain⟨b,rfl,h2⟩:=h
  obtain⟨b',h3,h4⟩:=h'
  cases h3
  rw [h2,h4]
 | succ k ih=>
  intro ts l e e' h h'
  obtain⟨_,lo,hh,h1,h2,h3⟩:=h
  obtain⟨_,lo',hh',g1,g2,g3⟩:=h'
  have a1:=ih _ _ _ _ h1 g1
  have a2:=ih _ _ _ _ h2 g2
  subst a1
  subst a2
  exact h3.det hw g3

theorem IsT.leads {f:Int}{M:St}(hw:M.wf)(hf:1≤f∧f≤5){k:Nat}{ts:List Bool}{l:Int}{e:Edge}(h:IsT f M k ts l e)(hl:l+k=M.n):M.leads f e l=true:=by
 cases k with
 | zero=>
  obtain⟨b,_,rfl⟩:=h
  have:l=M.n:=by simpa using hl
  rw [this]
  exact endE_leads hw hf
 | succ k=>obtain⟨_,_,_,_,_,h3⟩:=h;exact h3.leads

theorem IsT.top {f:Int}{M:St}(hw:M.wf)(hf:1≤f∧f≤5){k:Nat}{ts:List Bool}{l:Int}{e:Edge}(h:IsT f M k ts l e)(hl:l+k=M.n){r:Rec}(hr:look M.cs e.to=some r):l≤r.top:=
 (leads_some (h.leads hw hf hl) hr).2.1

theorem noneL_append:∀ (a b:List Bool),noneL (a++b)=(noneL a&&noneL b):=by
 intro a
 induction a with
 | nil=>intro b;rfl
 | cons x a ih=>
  intro b
  show(!x&&noneL (a++b))=((!x&&noneL a)&&noneL b)
  rw [ih,Bool.and_assoc]

theorem noneL_halves (p:Nat)(ts:List Bool):noneL ts=(noneL (ts.take p)&&noneL (ts.drop p)):=by
 rw [← noneL_append,List.take_append_drop]

theorem sameL_false {s t:List Bool}:sameL s t=false↔s≠t:=by
 rw [← Bool.not_eq_true,sameL_iff]

theorem mkK_ext {M M':St}(hE:Ext M M'){f l:Int}{lo hi:Edge}(h1:M.leads f lo (l+1)=true)(h2:M.leads f hi (l+1)=true)(hf:1≤f∧f≤5):mkK f M' l lo hi=mkK f M l lo hi:=by
 have a:=hE.leads h1
 have b:=hE.leads h2
 have c:=hE.same h1
 have hff:f=1∨f=2∨f=3∨f=4∨f=5:=by omega
 rcases hff with rfl|rfl|rfl|rfl|rfl
 ·rw [mkK1,mkK1]
  unfold makeAct bRest
  rw [hE.n,a,b,h1,h2]
 ·rw [mkK2,mkK2]
  unfold makeAct zRest
  rw [hE.n,a,b,h1,h2]
 ·rw [mkK3,mkK3]
  unfold makeAct cRest
  rw [hE.n,a,b,h1,h2,c]
 ·rw [mkK4,mkK4]
  unfold makeAct qRest
  rw [hE.n,a,b,h1,h2,c]
 ·rw [mkK5,mkK5]
  unfold tAct
  rw [hE.n,a,b,h1,h2]

theorem Pair.ext {f:Int}{M M':St}{l:Int}{lo hi e:Edge}(h:Pair f M l lo hi e)(hE:Ext M M')(hf:1≤f∧f≤5):Pair f M' l lo hi e:=by
 refine⟨?_,?_,hE.leads h.leads,hE.leads h.lo,hE.leads h.hi⟩
 ·rw [mkK_ext hE h.lo h.hi hf]
  rcases h.up with u|⟨r,u1,u2,u3⟩
  ·exact .inl u
  ·exact .inr ⟨r,u1,hE.sub _ _ u2,u3⟩
 ·rw [view_ext hE h.leads]
  rcases h.down with u|⟨r,u1,u2,u3⟩
  ·exact .inl u
  ·exact .inr ⟨r,u1,hE.sub _ _ u2,u3⟩

theorem IsT.ext {f:Int}{M M':St}(hE:Ext M M')(hf:1≤f∧f≤5):∀ (k:Nat) (ts:List Bool) (l:Int) (e:Edge),IsT f M k ts l e→IsT f M' k ts l e:=by
 intro k
 induction k with
 | zero=>intro ts l e h;exact h
 | succ k ih=>
  intro ts l e h
  obtain⟨hl,lo,hi,h1,h2,h3⟩:=h
  exact⟨hl,lo,hi,ih _ _ _ h1,ih _ _ _ h2,h3.ext hE hf⟩

def rightK (M:St)(f:Int)(e:Edge)(l:Int):Prop:=f=3∨f=4∨f=5→rightL M f e l=true

structure MakesK (f:Int)(M:St)(l:Int)(lo hi:Edge):Prop where
 err:actErr M (mkK f M l lo hi)=0
 pair:Pair f (actSt M (mkK f M l lo hi)) l lo hi (mkE f M (mkK f M l lo hi))
 grown:GrownBy M (actSt M (mkK f M l lo hi)) 1
 right:rightK (actSt M (mkK f M l lo hi)) f (mkE f M (mkK f M l lo hi)) l

theorem Makes.all {f:Int}{M:St}{l:Int}{lo hi:Edge}(h:Makes f M l lo hi)(hf:f=3∨f=4∨f=5):MakesK f M l lo hi:=by
 have e:mkK f M l lo hi=mkA f M l lo hi:=by rcases hf with rfl|rfl|rfl<;>rfl
 refine⟨by rw [e];exact h.err,by rw [e];exact h.both.pair hf,by rw [e];exact h.grown,fun _=>by rw [e];exact h.both.right⟩

theorem nodeK {f:Int}{M:St}{l:Int}{lo hi:Edge}(h:M.wf)(hf:f=1∨f=2)(h0:0≤l)(h1:l<M.n)(hroom:M.len<M.room)(a1:M.leads f lo (l+1)=true)(b1:M.leads f hi (l+1)=true)
  (hm:mkK f M l lo hi=.inr ⟨f,l,l,lo,hi⟩) (hgood:M.bad ⟨f,l,l,lo,hi⟩=false):MakesK f M l lo hi:=by
 obtain⟨w1,w2,w3,w4,w5,w6⟩:=find_good h hgood hroom
 have hE:=find_ext h hgood hroom
 have n16:=h.n16
 have n0:=h.n0
 have e2:actSt M (mkK f M l lo hi)=M.findSt ⟨f,l,l,lo,hi⟩:=by rw [hm];rfl
 have e1:mkE f M (mkK f M l lo hi)=⟨0,M.findId ⟨f,l,l,lo,hi⟩⟩:=by
  rw [hm]
  unfold mkE
  rw [if_neg (by omega)]
  exact foundE_ok w1
 have hl:(M.findSt ⟨f,l,l,lo,hi⟩).leads f ⟨0,M.findId ⟨f,l,l,lo,hi⟩⟩ l=true:=
  leads_iff.2 ⟨plainB_iff.2 ⟨by omega,by omega,by rw [w4];exact n0,by rw [w4];exact n16,h0,by rw [w4];omega,fun _=>rfl,fun h5=>by omega⟩,.inr ⟨_,w2,rfl,Int.le_refl _,h0⟩⟩
 refine⟨by rw [hm];exact w1,?_,by rw [e2];exact grown_find h hgood hroom,fun hh=>by omega⟩
 rw [e1,e2]
 refine⟨.inr ⟨_,?_,w2,by unfold tagOf;rw [if_neg (by omega)]⟩,?_,hl,hE.leads a1,hE.leads b1⟩
 ·rw [mkK_ext hE a1 b1 (by omega)]
  exact hm
 ·left
  unfold viewAct
  rw [if_neg (by rw [w4];omega),if_neg (by rw [hl];simp),if_neg (by omega)]
  show(match look (M.findSt ⟨f,l,l,lo,hi⟩).cs (M.findId ⟨f,l,l,lo,hi⟩) with|none=>_|some r=>_)=_
  rw [w2]
  show(if l<l then _ else if(f=3∨f=4)∧l≠l then _ else _)=_
  rw [if_neg (by omega),if_neg (by omega)]

theorem sameK {f:Int}{M:St}{l:Int}{lo hi:Edge}(h:M.wf)(hf:f=1∨f=2)(h0:0≤l)(h1:l<M.n)(a1:M.leads f lo (l+1)=true)(b1:M.leads f hi (l+1)=true)
  (hm:mkK f M l lo hi=.inl (lo,0)) (hv:vOut f l lo=(lo,hi,0)):MakesK f M l lo hi:=by
 have e2:actSt M (mkK f M l lo hi)=M:=by rw [hm];rfl
 have e1:mkE f M (mkK f M l lo hi)=lo:=by
  rw [hm]
  unfold mkE
  split<;>rfl
 have hd:=leads_down a1 h0 (show l≤l+1 by omega)
 refine⟨by rw [hm];rfl,?_,by rw [e2];exact GrownBy.refl h (by omega),fun hh=>by omega⟩
 rw [e1,e2]
 refine⟨.inl hm,.inl ?_,hd,a1,b1⟩
 unfold viewAct
 rw [if_neg (by omega),if_neg (by rw [hd];simp),if_neg (by omega)]
 cases hk:look M.cs lo.to with
 | none=>simp only [];rw [hv]
 | some r=>
  obtain⟨f1,f2,f3⟩:=leads_some a1 hk
  simp only []
  rw [if_pos (by omega),hv]

theorem makes1 {M:St}(h:M.wf){l:Int}{lo hi:Edge}(h0:0≤l)(h1:l<M.n)(hroom:M.len<M.room)(a1:M.leads 1 lo (l+1)=true)(b1:M.leads 1 hi (l+1)=true):MakesK 1 M l lo hi:=by
 have nv:¬(l<0∨M.n≤l):=by omega
 have nl:¬(M.leads 1 lo (l+1)=false∨M.leads 1 hi (l+1)=false):=by rw [a1,b1];simp
 by_cases c:lo=hi
 ·refine sameK h (.inl rfl) h0 h1 a1 b1 (by rw [mkK1];unfold makeAct bRest;rw [if_neg nv,if_neg nl,if_pos c]) ?_
  subst c
  rfl
 ·exact nodeK h (.inl rfl) h0 h1 hroom a1 b1 (by rw [mkK1];unfold makeAct bRest;rw [if_neg nv,if_neg nl,if_neg c]) (node_good (f:=1) h0 h1 a1 b1 (by omega) (fun _ _=>c))

theorem makes2 {M:St}(h:M.wf){l:Int}{lo hi:Edge}(h0:0≤l)(h1:l<M.n)(hroom:M.len<M.room)(a1:M.leads 2 lo (l+1)=true)(b1:M.leads 2 hi (l+1)=true):MakesK 2 M l lo hi:=by
 have nv:¬(l<0∨M.n≤l):=by omega
 have nl:¬(M.leads 2 lo (l+1)=false∨M.leads 2 hi (l+1)=false):=by rw [a1,b1];simp
 obtain⟨s1,s2,s3,s4,s5,s6,s7,s8⟩:=plainB_iff.1 (leads_iff.1 b1).1
 by_cases c:hi.to=0
 ·refine sameK h (.inr rfl) h0 h1 a1 b1 (by rw [mkK2];unfold makeAct zRest;rw [if_neg nv,if_neg nl,if_pos c]) ?_
  have hiz:hi=⟨0,0⟩:=by
   have:=s7 (.inl (by decide))
   cases hi
   simp at this c
   rw [this,c]
  rw [hiz]
  rfl
 ·exact nodeK h (.inr rfl) h0 h1 hroom a1 b1 (by rw [mkK2];unfold makeAct zRest;rw [if_neg nv,if_neg nl,if_neg c]) (node_good (f:=2) h0 h1 a1 b1 (fun _=>c) (by omega))

theorem makesK {f:Int}{M:St}(h:M.wf){l:Int}{lo hi:Edge}(hf:1≤f∧f≤5)(h0:0≤l)(h1:l<M.n)(hroom:M.len<M.room)(a1:M.leads f lo (l+1)=true)(b1:M.leads f hi (l+1)=true)
  (hlo:rightK M f lo (l+1)) (hhi:rightK M f hi (l+1)):MakesK f M l lo hi:=by
 have hff:f=1∨f=2∨f=3∨f=4∨f=5:=by omega
 rcases hff with rfl|rfl|rfl|rfl|rfl
 ·exact makes1 h h0 h1 hroom a1 b1
 ·exact makes2 h h0 h1 hroom a1 b1
 ·exact(makes3 h h0 h1 hroom (hlo (.inl rfl)) (hhi (.inl rfl))).all (.inl rfl)
 ·exact(makes4 h h0 h1 hroom (hlo (.inr (.inl rfl))) (hhi (.inr (.inl rfl)))).all (.inr (.inl rfl))
 ·exact(makes5 h h0 h1 hroom (hlo (.inr (.inr rfl))) (hhi (.inr (.inr rfl)))).all (.inr (.inr rfl))

theorem rightK_ext {M M':St}(hE:Ext M M')(h:M.wf){f:Int}{e:Edge}{l:Int}(hr:rightK M f e l):rightK M' f e l:=fun hf=>right_ext hE h (hr hf)

theorem endE_rightK {M:St}(h:M.wf){f:Int}{b:Bool}:rightK M f (endE f b M.n) M.n:=fun hf=>endE_right h hf

end Go.Proofs.YtpgcbmbnognieaaGreat
