/-
  Plainly: what Make of any two edges that lead means; what a step of swap tells.
-/
import Derived.Test.YtpgcbmbnognieaaGreatPMeansA
namespace Go.Proofs.YtpgcbmbnognieaaGreat
set_option maxRecDepth 1000000
set_option maxHeartbeats 8000000
set_option linter.unusedSimpArgs false
set_option linter.unusedVariables false

def St.solid (M:St):Prop:=M.gone=[]∧∀ o∈M.cs,o≠none

theorem solid_find {M:St}(h:M.solid)(r:Rec):(M.findSt r).solid:=by
 unfold St.findSt
 cases M.idOf r with
 | some id=>exact h
 | none=>
  simp only []
  split
  ·exact h
  ·split
   ·exact h
   ·refine⟨by show M.gone.dropLast=[];rw [h.1];rfl,fun o ho=>?_⟩
    change o∈putCs M.cs M.gone r at ho
    unfold putCs at ho
    rw [h.1] at ho
    simp only [List.getLast?_nil] at ho
    rcases List.mem_append.1 ho with ho|ho
    ·exact h.2 o ho
    ·rw [List.mem_singleton] at ho
     subst ho
     simp

theorem solid_act {M:St}(h:M.solid)(a:(Edge×Int) ⊕ Rec):(actSt M a).solid:=by
 cases a with
 | inl x=>exact h
 | inr r=>exact solid_find h r

theorem solid_view {M:St}(h:M.solid)(a:(Edge×Edge×Int) ⊕ Rec):(vSt M a).solid:=by
 cases a with
 | inl x=>exact h
 | inr r=>exact solid_find h r

structure Maded (f:Int)(M:St)(l:Int)(lo hi:Edge)(M':St)(e:Edge):Prop where
 ext:Ext M M'
 wf:M'.wf
 len:M'.len≤M.len+1
 room:M'.room=M.room
 lead:M'.leads f e l=true
 means:∀ x,tv M' f x l e=tv M f x (l+1) (if bitB x l then hi else lo)

theorem tv_low {M:St}{f x l:Int}{e:Edge}(hl:M.leads f e (l+1)=true)(hz:e.to≠0)(h1:l<M.n):tv M f x l e=(if zeroAt f e l&&bitB x l then false else tv M f x (l+1) e):=by
 refine tv_skip hz h1 ?_
 cases hk:look M.cs e.to with
 | none=>exact .inl rfl
 | some r=>
  obtain⟨f1,f2,f3⟩:=leads_some hl hk
  exact .inr ⟨r,rfl,by omega⟩

theorem made_inl {f:Int}{M:St}(h:M.wf){l:Int}{lo hi:Edge}(h0:0≤l)(h1:l<M.n)(a1:M.leads f lo (l+1)=true)(hm:∀ x,tv M f x l lo=tv M f x (l+1) (if bitB x l then hi else lo)):Maded f M l lo hi M lo:=
 ⟨Ext.refl M,h,by omega,rfl,leads_down a1 h0 (by omega),hm⟩

theorem clear_one (x l:Int):clearN x l (l+1-l).toNat=!bitB x l:=by
 rw [show(l+1-l).toNat=1 by omega]
 show(!bitB x l&&true)=_
 rw [Bool.and_true]

theorem side_one {x f l:Int}{lo hi:Edge}:sideE x ⟨f,l,l,lo,hi⟩=if bitB x l then hi else lo:=by
 unfold sideE someB
 simp only []
 by_cases h3:f=3
 ·rw [if_pos h3,clear_one,Bool.not_not]
 ·rw [if_neg h3]

theorem made_rec {f:Int}{M:St}(h:M.wf){l:Int}{lo hi:Edge}(h0:0≤l)(h1:l<M.n)(hf:1≤f∧f≤5){r:Rec}(hrf:r.form=f)(hrt:r.top=l)(hb:M.bad r=false)
  (hm:∀ (M':St) x,Ext M M'→M'.wf→tv M' f x (r.bot+1) (sideE x r)=tv M' f x (l+1) (if bitB x l then hi else lo)) (a1:M.leads f lo (l+1)=true) (b1:M.leads f hi (l+1)=true) :
  (M.findErr r=0∧Maded f M l lo hi (M.findSt r) (mkE f M (.inr r)))∨(M.findErr r=6∧M.findSt r=M∧mkE f M (.inr r)=⟨0,0⟩∧M.room≤M.len):=by
 by_cases he:M.findErr r=0
 ·left
  obtain⟨k1,k2,k3,k4,k5,k6⟩:=find_zero h hb he
  have hn:=k2.n
  have n0:=h.n0
  have n16:=h.n16
  have hE:mkE f M (.inr r)=⟨if f=5 then l else 0,M.findId r⟩:=by
   unfold mkE
   by_cases h5:f=5
   ·rw [if_pos h5,if_pos h5]
    show foundE M r.top r=_
    rw [foundE_ok he,hrt]
   ·rw [if_neg h5,if_neg h5]
    show foundE M 0 r=_
    rw [foundE_ok he]
  refine⟨he,k2,k3,k5,k6,?_,fun x=>?_⟩
  ·rw [hE]
   refine leads_iff.2 ⟨plainB_iff.2 ⟨hf.1,hf.2,by omega,by omega,h0,by omega,fun hh=>?_,fun hh _=>?_⟩,.inr ⟨r,k1,hrf,by omega,?_⟩⟩
   ·rcases hh with hh|hh
    ·show(if f=5 then l else 0)=0
     rw [if_neg hh]
    ·exfalso
     change M.findId r=0 at hh
     omega
   ·show l≤(if f=5 then l else 0)∧(if f=5 then l else 0)≤_
    rw [if_pos hh]
    omega
   ·show(if f=5 then l else 0)≤r.top
    split<;>omega
  ·rw [hE]
   rw [tv_node k3 (by omega) (show look (M.findSt r).cs _=some r from k1) hrf (by omega) hrt,hm _ x k2 k3]
   refine tv_ext h k2 (Weak.of ?_)
   split
   ·exact b1
   ·exact a1
 ·right
  obtain⟨q1,q2,q3⟩:=find_full hb he
  refine⟨q1,q2,?_,q3⟩
  unfold mkE
  split
  ·exact foundE_bad he
  ·exact foundE_bad he

def MadeOf (f:Int)(M:St)(l:Int)(lo hi:Edge):Prop:=
 (actErr M (mkK f M l lo hi)=0∧Maded f M l lo hi (actSt M (mkK f M l lo hi)) (mkE f M (mkK f M l lo hi))) ∨
 (actErr M (mkK f M l lo hi)=6∧actSt M (mkK f M l lo hi)=M∧mkE f M (mkK f M l lo hi)=⟨0,0⟩∧M.room≤M.len)

theorem madeOf_inl {f:Int}{M:St}{l:Int}{lo hi e:Edge}(hm:mkK f M l lo hi=.inl (e,0))(hd:Maded f M l lo hi M e):MadeOf f M l lo hi:=by
 unfold MadeOf
 rw [hm]
 have e1:mkE f M (.inl (e,0))=e:=by unfold mkE;split<;>rfl
 rw [e1]
 exact .inl ⟨rfl,hd⟩

theorem madeOf_inr {f:Int}{M:St}{l:Int}{lo hi:Edge}{r:Rec}(hm:mkK f M l lo hi=.inr r)
  (hd:(M.findErr r=0∧Maded f M l lo hi (M.findSt r) (mkE f M (.inr r)))∨(M.findErr r=6∧M.findSt r=M∧mkE f M (.inr r)=⟨0,0⟩∧M.room≤M.len)):MadeOf f M l lo hi:=by
 unfold MadeOf
 rw [hm]
 exact hd

theorem madeOf_node {f:Int}{M:St}(h:M.wf){l:Int}{lo hi:Edge}(h0:0≤l)(h1:l<M.n)(hf:1≤f∧f≤5)(a1:M.leads f lo (l+1)=true)(b1:M.leads f hi (l+1)=true)
  (hm:mkK f M l lo hi=.inr ⟨f,l,l,lo,hi⟩) (hz:f=2∨f=4→hi.to≠0) (hap:f≠2→f≠4→lo≠hi):MadeOf f M l lo hi:=
 madeOf_inr hm (made_rec h h0 h1 hf rfl rfl (node_good h0 h1 a1 b1 hz hap) (fun M' x _ _=>by rw [side_one]) a1 b1)

theorem edge_zero {M:St}{f l:Int}{e:Edge}(hl:M.leads f e l=true)(hz:e.to=0):e=⟨0,0⟩:=by
 have:=(plainB_iff.1 (leads_iff.1 hl).1).2.2.2.2.2.2.1 (.inr hz)
 cases e
 simp only at hz this
 rw [hz,this]

theorem made_of {f:Int}{M:St}(h:M.wf){l:Int}{lo hi:Edge}(hf:1≤f∧f≤5)(h0:0≤l)(h1:l<M.n)(a1:M.leads f lo (l+1)=true)(b1:M.leads f hi (l+1)=true):MadeOf f M l lo hi:=by
 have nv:¬(l<0∨M.n≤l):=by omega
 have nl:∀ g:Int,g=f→¬(M.leads g lo (l+1)=false∨M.leads g hi (l+1)=false):=fun g hg=>by rw [hg,a1,b1];simp
 have hff:f=1∨f=2∨f=3∨f=4∨f=5:=by omega
 -- the same halves, or the upper one to nothing
 have same:lo=hi→(∀ e:Edge,M.leads f e (l+1)=true→e.to≠0→zeroAt f e l=false)→∀ x,tv M f x l lo=tv M f x (l+1) (if bitB x l then hi else lo):=fun he hzz x=>by
  subst he
  rw [ite_self]
  by_cases hz:lo.to=0
  ·rw [tv_no hz,tv_no hz]
  ·rw [tv_low a1 hz h1,hzz lo a1 hz,Bool.false_and]
   rfl
 have nope:hi.to=0→(∀ e:Edge,zeroAt f e l=true)→∀ x,tv M f x l lo=tv M f x (l+1) (if bitB x l then hi else lo):=fun hz hzz x=>by
  by_cases hz2:lo.to=0
  ·rw [tv_no hz2]
   split
   ·rw [tv_no hz]
   ·rw [tv_no hz2]
  ·rw [tv_low a1 hz2 h1,hzz lo,Bool.true_and]
   split
   ·rw [tv_no hz]
   ·rfl
 rcases hff with rfl|rfl|rfl|rfl|rfl
 ·by_cases c:lo=hi
  ·exact madeOf_inl (by rw [mkK1];unfold makeAct bRest;rw [if_neg nv,if_neg (nl _ rfl),if_pos c]) (made_inl h h0 h1 a1 (same c (fun _ _ _=>rfl)))
  ·exact madeOf_node h h0 h1 hf a1 b1 (by rw [mkK1];unfold makeAct bRest;rw [if_neg nv,if_neg (nl _ rfl),if_neg c]) (by omega) (fun _ _=>c)
 ·by_cases c:hi.to=0
  ·exact madeOf_inl (by rw [mkK2];unfold makeAct zRest;rw [if_neg nv,if_neg (nl _ rfl),if_pos c]) (made_inl h h0 h1 a1 (nope c (fun _=>rfl)))
  ·exact madeOf_node h h0 h1 hf a1 b1 (by rw [mkK2];unfold makeAct zRest;rw [if_neg nv,if_neg (nl _ rfl),if_neg c]) (fun _=>c) (by omega)
 ·by_cases c:lo=hi
  ·exact madeOf_inl (by rw [mkK3];unfold makeAct cRest;rw [if_neg nv,if_neg (nl _ rfl),if_pos c]) (made_inl h h0 h1 a1 (same c (fun _ _ _=>rfl)))
  ·have hm:mkK 3 M l lo hi=cRest M l lo hi:=by rw [mkK3];unfold makeAct;rw [if_neg nv,if_neg (nl _ rfl)]
   have node:cRest M l lo hi=.inr ⟨3,l,l,lo,hi⟩→MadeOf 3 M l lo hi:=fun hc=>madeOf_node h h0 h1 hf a1 b1 (hm.trans hc) (by omega) (fun _ _=>c)
   cases hk:look M.cs lo.to with
   | none=>exact node (by unfold cRest;rw [if_neg c,hk])
   | some r=>
    by_cases c1:r.top=l+1
    ·by_cases c2:r.hi=hi
     ·obtain⟨f1,f2,f3⟩:=leads_some a1 hk
      have g:=h.goodRec hk
      have gt:=g.tb
      have gb:=g.bn
      have gh:=g.hi
      rw [f1] at gh
      have hbad:=chain_good h hk f1 (.inl rfl) h0 c1
      rw [c2] at hbad
      refine madeOf_inr (hm.trans (by unfold cRest;rw [if_neg c,hk];simp only [];rw [if_pos c1,if_pos c2])) (made_rec h h0 h1 hf rfl rfl hbad (fun M' x hE hw=>?_) a1 b1)
      have hk':=hE.sub _ _ hk
      have hn:=hE.n
      have hs:sideE x ⟨3,l,r.bot,r.lo,hi⟩=if bitB x l then hi else sideE x r:=by
       unfold sideE someB
       simp only []
       rw [if_pos f1,if_pos trivial,show(r.bot+1-l).toNat=(r.bot+1-r.top).toNat+1 by omega]
       show(if !(!bitB x l&&clearN x (l+1) (r.bot+1-r.top).toNat) then hi else r.lo)=_
       rw [c1,c2]
       cases bitB x l with
       | true=>rfl
       | false=>rfl
      show tv M' 3 x (r.bot+1) (sideE x ⟨3,l,r.bot,r.lo,hi⟩)=_
      rw [hs]
      cases hb:bitB x l with
      | true=>
       rw [if_pos rfl,if_pos rfl]
       have hw2:M'.leads 3 hi (r.bot+1)=true:=by rw [← c2];exact hE.leads gh
       refine(tv_free rfl (by omega) ?_ (r.bot+1-(l+1)).toNat (l+1) (by omega)).symm
       rcases(Weak.of hw2).2 with q|⟨s,q1,q2,q3⟩
       ·exact .inl q
       ·exact .inr ⟨s,q1,q3⟩
      | false=>
       rw [if_neg (by simp),if_neg (by simp)]
       exact(tv_node hw (by omega) hk' f1 (by omega) c1).symm
     ·exact node (by unfold cRest;rw [if_neg c,hk];simp only [];rw [if_pos c1,if_neg c2])
    ·exact node (by unfold cRest;rw [if_neg c,hk];simp only [];rw [if_neg c1])
 ·by_cases c:hi.to=0
  ·exact madeOf_inl (by rw [mkK4];unfold makeAct qRest;rw [if_neg nv,if_neg (nl _ rfl),if_pos c]) (made_inl h h0 h1 a1 (nope c (fun _=>rfl)))
  ·have hm:mkK 4 M l lo hi=qRest M l lo hi:=by rw [mkK4];unfold makeAct;rw [if_neg nv,if_neg (nl _ rfl)]
   have node:qRest M l lo hi=.inr ⟨4,l,l,lo,hi⟩→MadeOf 4 M l lo hi:=fun hc=>madeOf_node h h0 h1 hf a1 b1 (hm.trans hc) (fun _=>c) (by omega)
   cases hk:look M.cs lo.to with
   | none=>exact node (by unfold qRest;rw [if_neg c,hk])
   | some r=>
    by_cases c1:lo=hi
    ·by_cases c2:r.top=l+1
     ·obtain⟨f1,f2,f3⟩:=leads_some a1 hk
      have g:=h.goodRec hk
      have gt:=g.tb
      have gb:=g.bn
      refine madeOf_inr (hm.trans (by unfold qRest;rw [if_neg c,hk];simp only [];rw [if_pos c1,if_pos c2])) (made_rec h h0 h1 hf rfl rfl (chain_good h hk f1 (.inr rfl) h0 c2) (fun M' x hE hw=>?_) a1 b1)
      have hk':=hE.sub _ _ hk
      have hn:=hE.n
      have hs:sideE x ⟨4,l,r.bot,r.lo,r.hi⟩=sideE x r:=by
       unfold sideE someB
       simp [show ¬r.form=3 by omega]
      show tv M' 4 x (r.bot+1) (sideE x ⟨4,l,r.bot,r.lo,r.hi⟩)=_
      rw [hs,← c1,ite_self]
      exact(tv_node hw (by omega) hk' f1 (by omega) c2).symm
     ·exact node (by unfold qRest;rw [if_neg c,hk];simp only [];rw [if_pos c1,if_neg c2])
    ·exact node (by unfold qRest;rw [if_neg c,hk];simp only [];rw [if_neg c1])
 ·by_cases c:lo=hi
  ·refine madeOf_inl (by rw [mkK5];unfold tAct;rw [if_neg nv,if_neg (nl _ rfl),if_pos c]) (made_inl h h0 h1 a1 (same c (fun e he hz=>?_)))
   have:=(plainB_iff.1 (leads_iff.1 he).1).2.2.2.2.2.2.2 rfl hz
   unfold zeroAt
   simp
   omega
  ·by_cases c2:hi.to=0∧lo.tag=l+1
   ·obtain⟨c2,c3⟩:=c2
    have hz:lo.to≠0:=fun hh=>c (by rw [edge_zero a1 hh,edge_zero b1 c2])
    obtain⟨hp,hr⟩:=leads_iff.1 a1
    obtain⟨p1,p2,p3,p4,p5,p6,p7,p8⟩:=plainB_iff.1 hp
    have hle:M.leads 5 ⟨l,lo.to⟩ l=true:=by
     refine leads_iff.2 ⟨plainB_iff.2 ⟨p1,p2,p3,p4,h0,by omega,fun hh=>?_,fun _ _=>⟨Int.le_refl _,by show l≤M.n;omega⟩⟩,?_⟩
     ·rcases hh with hh|hh
      ·exact absurd rfl hh
      ·exact absurd hh hz
     ·rcases hr with hr|⟨r,q1,q2,q3,q4⟩
      ·exact .inl hr
      ·exact .inr ⟨r,q1,q2,by omega,by show l≤r.top;omega⟩
    refine madeOf_inl (e:=⟨l,lo.to⟩) (by rw [mkK5];unfold tAct;rw [if_neg nv,if_neg (nl _ rfl),if_neg c,if_pos ⟨c2,c3⟩]) ⟨Ext.refl M,h,by omega,rfl,hle,fun x=>?_⟩
    have hsk:look M.cs (⟨l,lo.to⟩:Edge).to=none∨∃ r,look M.cs (⟨l,lo.to⟩:Edge).to=some r∧l<r.top:=by
     show look M.cs lo.to=none∨∃ r,look M.cs lo.to=some r∧l<r.top
     cases hk:look M.cs lo.to with
     | none=>exact .inl rfl
     | some r=>obtain⟨f1,f2,f3⟩:=leads_some a1 hk;exact .inr ⟨r,rfl,by omega⟩
    have hza:zeroAt 5 ⟨l,lo.to⟩ l=true:=by unfold zeroAt;simp
    have hw:Weak M 5 (l+1) ⟨l,lo.to⟩:=by
     refine⟨by omega,?_⟩
     show lo.to<2∨_
     rcases hr with hr|⟨r,q1,q2,q3,q4⟩
     ·exact .inl hr
     ·exact .inr ⟨r,q1,q2,by omega⟩
    rw [tv_skip (e:=⟨l,lo.to⟩) hz h1 hsk,hza,Bool.true_and]
    cases bitB x l with
    | true=>rw [if_pos rfl,if_pos rfl,tv_no c2]
    | false=>
     rw [if_neg (by simp),if_neg (by simp)]
     refine tv_tag hw rfl (fun j hj=>?_)
     unfold zeroAt
     simp only [c3]
     have d1:decide (l≤j)=true:=decide_eq_true (by omega)
     have d2:decide (l+1≤j)=true:=decide_eq_true hj
     rw [d1,d2]
   ·exact madeOf_node h h0 h1 hf a1 b1 (by rw [mkK5];unfold tAct;rw [if_neg nv,if_neg (nl _ rfl),if_neg c,if_neg c2]) (by omega) (fun _ _=>c)

theorem made_right {f:Int}{M:St}(h:M.wf){l:Int}{lo hi:Edge}(hf:1≤f∧f≤5)(h0:0≤l)(h1:l<M.n)(hlen:M.len<1048576)(a1:M.leads f lo (l+1)=true)(b1:M.leads f hi (l+1)=true)
  (he:actErr M (mkK f M l lo hi)=0) (hlo:rightK M f lo (l+1)) (hhi:rightK M f hi (l+1)):rightK (actSt M (mkK f M l lo hi)) f (mkE f M (mkK f M l lo hi)) l:=by
 rcases make_any h hf h0 h1 hlen a1 b1 hlo hhi with⟨_,_,_,hr⟩|⟨h6,_⟩
 ·exact hr
 ·rw [he] at h6;cases h6

structure SwB (lv y z:Int):Prop where
 up:bitB y lv=bitB z (lv+1)
 down:bitB y (lv+1)=bitB z lv
 rest:∀ j,0≤j→j≠lv→j≠lv+1→bitB y j=bitB z j

structure GoodS (lv f:Int)(M:St)(e:Edge)(l:Int)(x:Edge):Prop where
 lead:M.leads f x l=true
 ok:x.ok
 means:∀ y z,SwB lv y z→tv M f y l x=tv M f z l e
 right:rightK M f e l→rightK M f x l

theorem GoodS.ext {lv f:Int}{M M':St}{e x:Edge}{l:Int}(hE:Ext M M')(hw:M.wf)(hl:M.leads f e l=true)(h:GoodS lv f M e l x):GoodS lv f M' e l x:=
 ⟨hE.leads h.lead,h.ok,fun y z hs=>by rw [tv_ext hw hE (Weak.of h.lead),tv_ext hw hE (Weak.of hl)];exact h.means y z hs,fun hr=>rightK_ext hE hw (h.right (rightK_back hE hw hl hr))⟩

structure Went (M M':St)(c:Int):Prop where
 ext:Ext M M'
 wf:M'.wf
 room:M'.room=M.room
 len:M'.len≤M.len+c
 solid:M.solid→M'.solid

theorem Went.refl {M:St}(h:M.wf):Went M M 0:=⟨Ext.refl M,h,rfl,by omega,fun h=>h⟩

theorem Went.trans {A B C:St}{c d:Int}(h:Went A B c)(k:Went B C d):Went A C (c+d):=⟨h.ext.trans k.ext,k.wf,k.room.trans h.room,by have:=h.len;have:=k.len;omega,fun q=>k.solid (h.solid q)⟩

theorem Went.le {A B:St}{c d:Int}(h:Went A B c)(hd:c≤d):Went A B d:=⟨h.ext,h.wf,h.room,by have:=h.len;omega,h.solid⟩

theorem Went.small {A B:St}{c:Int}(h:Went A B c)(hr:A.room<1048576):B.len<1048576:=by
 have:=h.wf.full
 have:=h.room
 omega

structure Swp (lv f:Int)(M:St)(e:Edge)(l:Int)(M':St)(x:Edge)(er:Int)(c:Int):Prop where
 went:Went M M' c
 good:er=0→GoodS lv f M' e l x
 full:er≠0→er=6∧x=⟨0,0⟩∧M'.room≤M'.len

theorem viewed_went {f:Int}{M:St}(h:M.wf){l:Int}{e:Edge}(hl:M.leads f e l=true)(h1:l<M.n)(he:vErr M (viewAct M f e l)=0):Went M (vSt M (viewAct M f e l)) 1:=by
 have hv:=viewed h hl h1 he
 exact⟨hv.ext,hv.wf,hv.room,hv.len,fun hs=>solid_view hs _⟩

theorem made_went {f:Int}{M:St}{l:Int}{lo hi:Edge}(hd:Maded f M l lo hi (actSt M (mkK f M l lo hi)) (mkE f M (mkK f M l lo hi))):Went M (actSt M (mkK f M l lo hi)) 1:=⟨hd.ext,hd.wf,hd.room,hd.len,fun hs=>solid_act hs _⟩

theorem swp_view_full {lv f:Int}{M M1:St}(hw:M.wf){e:Edge}{l c:Int}(hl:M.leads f e l=true)(h1:l<M.n)(hc:0≤c)(he:vErr M (viewAct M f e l)≠0)(hM:M1=vSt M (viewAct M f e l)) :
  vErr M (viewAct M f e l)=6∧M1=M∧Swp lv f M e l M ⟨0,0⟩ 6 c:=by
 obtain⟨a,b,d⟩:=viewed_full hw hl h1 he
 exact⟨a,hM.trans b,(Went.refl hw).le hc,fun h=>by(cases h),fun _=>⟨rfl,rfl,d⟩⟩

theorem swp_full {lv f:Int}{M M':St}{e:Edge}{l c d:Int}(hw:Went M M' d)(hc:d≤c)(hr:M'.room≤M'.len):Swp lv f M e l M' ⟨0,0⟩ 6 c:=
 ⟨hw.le hc,fun h=>by(cases h),fun _=>⟨rfl,rfl,hr⟩⟩

theorem swp_make {lv f:Int}{M M1 M2 M3:St}(hw:M.wf)(hroom:M.room<1048576)(hf:1≤f∧f≤5){e lo hi x y:Edge}{l c:Int}(hl:M.leads f e l=true)(h0:0≤l)(h1:l<lv)(hlv:lv+1<M.n)(he:vErr M (viewAct M f e l)=0)
  (hM:M1=vSt M (viewAct M f e l)) (hlo:lo=vLo M (viewAct M f e l)) (hhi:hi=vHi M f (viewAct M f e l))
  (hc1:Swp lv f M1 lo (l+1) M2 x 0 c) (hc2:Swp lv f M2 hi (l+1) M3 y 0 c) (hok:(mkE f M3 (mkK f M3 l x y)).ok) :
  Swp lv f M e l (actSt M3 (mkK f M3 l x y)) (mkE f M3 (mkK f M3 l x y)) (actErr M3 (mkK f M3 l x y)) (2+2*c):=by
 have hv:=viewed hw hl (by omega) he
 have hg0:=viewed_went hw hl (by omega) he
 have hpair:=fun hr=>view_pair hw hl h0 (by omega) he hr hM hlo hhi
 rw [← hM] at hg0
 rw [← hM,← hlo,← hhi] at hv
 have hl1:M1.leads f lo (l+1)=true:=hv.llo
 have hl2:M1.leads f hi (l+1)=true:=hv.lhi
 have hl22:=hc1.went.ext.leads hl2
 have g1:=(hc1.good rfl).ext hc2.went.ext hc1.went.wf (hc1.went.ext.leads hl1)
 have g2:=hc2.good rfl
 have hwt:=(hg0.trans hc1.went).trans hc2.went
 have hn:=hwt.ext.n
 have hn1:=hv.ext.n
 have hE13:=hc1.went.ext.trans hc2.went.ext
 rcases made_of hc2.went.wf hf h0 (by omega) g1.lead g2.lead with⟨m1,hd⟩|⟨m1,m2,m3,m4⟩
 ·rw [m1]
  have hwt4:=hwt.trans (made_went hd)
  have hr4:=fun a b=>made_right hc2.went.wf hf h0 (show l<M3.n by omega) (hwt.small hroom) g1.lead g2.lead m1 a b
  refine⟨hwt4.le (by omega),fun _=>⟨hd.lead,hok,fun a b hs=>?_,fun hr=>?_⟩,fun h=>absurd rfl h⟩
  ·rw [hd.means,tv_ext hw hwt4.ext (Weak.of hl),hv.means,← hs.rest l h0 (by omega) (by omega)]
   cases bitB a l with
   | true=>
    rw [if_pos rfl,if_pos rfl,g2.means a b hs]
    exact(tv_ext hc1.went.wf hc2.went.ext (Weak.of hl22)).trans (tv_ext hv.wf hc1.went.ext (Weak.of hl2))
   | false=>
    rw [if_neg (by simp),if_neg (by simp),g1.means a b hs]
    exact tv_ext hv.wf hE13 (Weak.of hl1)
  ·obtain⟨_,k2,k3⟩:=hpair (rightK_back hwt4.ext hw hl hr)
   exact hr4 (g1.right (rightK_ext hE13 hv.wf k2)) (g2.right (rightK_ext hE13 hv.wf k3))
 ·rw [m1,m2,m3]
  exact swp_full hwt (by omega) m4

theorem swp_cross {lv f:Int}{M M1 Ma Mb Mx My:St}(hw:M.wf)(hroom:M.room<1048576)(hf:1≤f∧f≤5){e lo hi a b c d x y:Edge}(hl:M.leads f e lv=true)(h0:0≤lv)(hlv:lv+1<M.n)(he:vErr M (viewAct M f e lv)=0)
  (hM:M1=vSt M (viewAct M f e lv)) (hlo:lo=vLo M (viewAct M f e lv)) (hhi:hi=vHi M f (viewAct M f e lv))
  (he1:vErr M1 (viewAct M1 f lo (lv+1))=0) (hMa:Ma=vSt M1 (viewAct M1 f lo (lv+1))) (ha:a=vLo M1 (viewAct M1 f lo (lv+1))) (hb:b=vHi M1 f (viewAct M1 f lo (lv+1)))
  (he2:vErr Ma (viewAct Ma f hi (lv+1))=0) (hMb:Mb=vSt Ma (viewAct Ma f hi (lv+1))) (hc:c=vLo Ma (viewAct Ma f hi (lv+1))) (hd:d=vHi Ma f (viewAct Ma f hi (lv+1)))
  (he3:actErr Mb (mkK f Mb (lv+1) a c)=0) (hMx:Mx=actSt Mb (mkK f Mb (lv+1) a c)) (hx:x=mkE f Mb (mkK f Mb (lv+1) a c))
  (he4:actErr Mx (mkK f Mx (lv+1) b d)=0) (hMy:My=actSt Mx (mkK f Mx (lv+1) b d)) (hy:y=mkE f Mx (mkK f Mx (lv+1) b d)) (hok:(mkE f My (mkK f My lv x y)).ok) :
  Swp lv f M e lv (actSt My (mkK f My lv x y)) (mkE f My (mkK f My lv x y)) (actErr My (mkK f My lv x y)) 6:=by
 have hv:=viewed hw hl (by omega) he
 have w1:=viewed_went hw hl (by omega) he
 have hpair:=fun hr=>view_pair hw hl h0 (by omega) he hr hM hlo hhi
 rw [← hM] at w1
 rw [← hM,← hlo,← hhi] at hv
 have n1:=hv.ext.n
 have v1:=viewed hv.wf hv.llo (by omega) he1
 have w2:=viewed_went hv.wf hv.llo (by omega) he1
 have hpair1:=fun hr=>view_pair hv.wf hv.llo (by omega) (by omega) he1 hr hMa ha hb
 rw [← hMa] at w2
 rw [← hMa,← ha,← hb] at v1
 have n2:=v1.ext.n
 have lhi2:=v1.ext.leads hv.lhi
 have v2:=viewed v1.wf lhi2 (by omega) he2
 have w3:=viewed_went v1.wf lhi2 (by omega) he2
 have hpair2:=fun hr=>view_pair v1.wf lhi2 (by omega) (by omega) he2 hr hMb hc hd
 rw [← hMb] at w3
 rw [← hMb,← hc,← hd] at v2
 have n3:=v2.ext.n
 have la:=v2.ext.leads v1.llo
 have lb:=v2.ext.leads v1.lhi
 rcases made_of v2.wf hf (l:=lv+1) (by omega) (by omega) la v2.llo with⟨m1,md1⟩|⟨m1,_⟩
 case inr=>rw [he3] at m1;cases m1
 have w4:=made_went md1
 have hr1:=fun p q=>made_right v2.wf hf (l:=lv+1) (by omega) (by omega) (((w1.trans w2).trans w3).small hroom) la v2.llo m1 p q
 rw [← hMx] at w4
 rw [← hMx,← hx] at md1 hr1
 have n4:=md1.ext.n
 have lb4:=md1.ext.leads lb
 have ld4:=md1.ext.leads v2.lhi
 rcases made_of md1.wf hf (l:=lv+1) (by omega) (by omega) lb4 ld4 with⟨m2,md2⟩|⟨m2,_⟩
 case inr=>rw [he4] at m2;cases m2
 have w5:=made_went md2
 have hr2:=fun p q=>made_right md1.wf hf (l:=lv+1) (by omega) (by omega) ((((w1.trans w2).trans w3).trans w4).small hroom) lb4 ld4 m2 p q
 rw [← hMy] at w5
 rw [← hMy,← hy] at md2 hr2
 have n5:=md2.ext.n
 have lx5:=md2.ext.leads md1.lead
 have hwt:=(((w1.trans w2).trans w3).trans w4).trans w5
 rcases made_of md2.wf hf h0 (by omega) lx5 md2.lead with⟨m3,md3⟩|⟨m3,m4,m5,m6⟩
 case inr=>rw [m3,m4,m5];exact swp_full hwt (by omega) m6
 rw [m3]
 have hwt6:=hwt.trans (made_went md3)
 have hr3:=fun p q=>made_right md2.wf hf h0 (show lv<My.n by omega) (hwt.small hroom) lx5 md2.lead m3 p q
 refine⟨hwt6.le (by omega),fun _=>⟨md3.lead,hok,fun p q hs=>?_,fun hr=>?_⟩,fun h=>absurd rfl h⟩
 ·have far:∀ (N:St) (u:Edge),N.wf→N.leads f u (lv+1+1)=true→tv N f p (lv+1+1) u=tv N f q (lv+1+1) u:=fun N u hN hu=>tv_bits hN (Weak.of hu) (fun j hj=>hs.rest j (by omega) (by omega) (by omega))
  have ta:tv Mb f p (lv+1+1) a=tv Ma f q (lv+1+1) a:=(tv_ext v1.wf v2.ext (Weak.of v1.llo)).trans (far Ma a v1.wf v1.llo)
  have tb:tv Mb f p (lv+1+1) b=tv Ma f q (lv+1+1) b:=(tv_ext v1.wf v2.ext (Weak.of v1.lhi)).trans (far Ma b v1.wf v1.lhi)
  have tc:=far Mb c v2.wf v2.llo
  have td:=far Mb d v2.wf v2.lhi
  have tx:tv My f p (lv+1) x=tv Mb f p (lv+1+1) (if bitB q lv then c else a):=by rw [tv_ext md1.wf md2.ext (Weak.of md1.lead),md1.means,hs.down]
  have ty:tv My f p (lv+1) y=tv Mb f p (lv+1+1) (if bitB q lv then d else b):=by
   rw [md2.means,hs.down]
   split
   ·exact tv_ext v2.wf md1.ext (Weak.of v2.lhi)
   ·exact tv_ext v2.wf md1.ext (Weak.of lb)
  have tlo:tv M1 f q (lv+1) lo=tv Ma f q (lv+1+1) (if bitB q (lv+1) then b else a):=v1.means q
  have thi:tv M1 f q (lv+1) hi=tv Mb f q (lv+1+1) (if bitB q (lv+1) then d else c):=by rw [← tv_ext hv.wf v1.ext (Weak.of hv.lhi)];exact v2.means q
  rw [md3.means,tv_ext hw hwt6.ext (Weak.of hl),hv.means,hs.up]
  cases h1:bitB q (lv+1) with
  | true=>
   rw [if_pos rfl,ty]
   rw [h1,if_pos rfl] at tlo thi
   cases h2:bitB q lv with
   | true=>rw [if_pos rfl,if_pos rfl,thi];exact td
   | false=>rw [if_neg (by simp),if_neg (by simp),tlo];exact tb
  | false=>
   rw [if_neg (by simp),tx]
   rw [h1,if_neg (by simp)] at tlo thi
   cases h2:bitB q lv with
   | true=>rw [if_pos rfl,if_pos rfl,thi];exact tc
   | false=>rw [if_neg (by simp),if_neg (by simp),tlo];exact ta
 ·obtain⟨_,k2,k3⟩:=hpair (rightK_back hwt6.ext hw hl hr)
  obtain⟨_,ra,rb⟩:=hpair1 k2
  obtain⟨_,rc,rd⟩:=hpair2 (rightK_ext v1.ext hv.wf k3)
  have ra':=rightK_ext v2.ext v1.wf ra
  have rb':=rightK_ext v2.ext v1.wf rb
  have rx:=hr1 ra' rc
  have ry:=hr2 (rightK_ext md1.ext v2.wf rb') (rightK_ext md1.ext v2.wf rd)
  exact hr3 (rightK_ext md2.ext md1.wf rx) ry

def costS (lv l:Int):Int:=8*2 ^ (lv-l).toNat-2

theorem costS_at (lv:Int):costS lv lv=6:=by
 unfold costS
 rw [show(lv-lv).toNat=0 by omega]
 rfl

theorem costS_up {lv l:Int}(h:l<lv):costS lv l=2+2*costS lv (l+1):=by
 unfold costS
 rw [show(lv-l).toNat=(lv-(l+1)).toNat+1 by omega,Int.pow_succ]
 omega

theorem costS_pos {lv l:Int}:6≤costS lv l:=by
 unfold costS
 have:(0:Int)<2 ^ (lv-l).toNat:=Int.pow_pos (by decide)
 omega

end Go.Proofs.YtpgcbmbnognieaaGreat
