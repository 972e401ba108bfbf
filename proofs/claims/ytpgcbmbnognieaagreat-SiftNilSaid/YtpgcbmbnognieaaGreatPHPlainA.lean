/-
  Plainly: what Make makes of two right edges is right, and View of it tells the two again: any form with chains or tags.
-/
import Derived.Test.YtpgcbmbnognieaaGreatPRightA
namespace Go.Proofs.YtpgcbmbnognieaaGreat
set_option maxRecDepth 1000000
set_option maxHeartbeats 8000000
set_option linter.unusedSimpArgs false
set_option linter.unusedVariables false

structure Ext (M M':St):Prop where
 n:M'.n=M.n
 sub:∀ id r,look M.cs id=some r→look M'.cs id=some r

theorem Ext.refl (M:St):Ext M M:=⟨rfl,fun _ _ h=>h⟩

theorem Ext.trans {a b c:St}(h:Ext a b)(k:Ext b c):Ext a c:=⟨k.n.trans h.n,fun id r hl=>k.sub id r (h.sub id r hl)⟩

theorem look_low {cs:List (Option Rec)}{id:Int}(h:id<2):look cs id=none:=by unfold look;rw [if_pos h]

theorem Ext.same {M M':St}(h:Ext M M'){f:Int}{e:Edge}{l:Int}(hl:M.leads f e l=true):look M'.cs e.to=look M.cs e.to:=by
 rcases(leads_cases hl).2 with h2|⟨r,hr,_⟩
 ·rw [look_low h2,look_low h2]
 ·rw [hr,h.sub _ _ hr]

theorem Ext.leads {M M':St}(h:Ext M M'){f:Int}{e:Edge}{l:Int}(hl:M.leads f e l=true):M'.leads f e l=true:=leads_mono h.n h.sub hl

def okReach (M:St)(f a:Int):Prop:=∀ x,Reaches M.cs [a] x→wrongB M f (grec (look M.cs x))=false

theorem right_iff {M:St}{f:Int}{e:Edge}{l:Int}:rightL M f e l=true↔(M.leads f e l=true∧okReach M f e.to):=by
 unfold rightL
 rw [Bool.and_eq_true,List.all_eq_true]
 constructor
 ·rintro⟨h1,h2⟩
  refine⟨h1,fun x hx=>?_⟩
  have:=h2 x (mem_reachL.2 hx)
  simpa using this
 ·rintro⟨h1,h2⟩
  refine⟨h1,fun x hx=>?_⟩
  rw [h2 x (mem_reachL.1 hx)]
  rfl

theorem okReach_low {M:St}{f a:Int}(h:look M.cs a=none):okReach M f a:=by
 intro x hx
 have:=hx (fun _=>False) (fun e he hl=>by rw [List.mem_singleton] at he;subst he;exact hl h) (fun _ _ h _=>h.elim)
 exact this.elim

theorem wrong_ext {M M':St}(hE:Ext M M')(h:M.wf){f id:Int}{r:Rec}(hl:look M.cs id=some r):wrongB M' f r=wrongB M f r:=by
 unfold wrongB
 split
 ·rfl
 ·rw [hE.same (h.goodRec hl).lo]

theorem okReach_ext {M M':St}(hE:Ext M M')(h:M.wf){f a:Int}(ha:a<2∨look M.cs a≠none)(hk:okReach M f a):okReach M' f a:=by
 intro x hx
 have key:=hx (fun y=>Reaches M.cs [a] y) (fun e he hl=>by
  rw [List.mem_singleton] at he
  subst he
  rcases ha with ha|ha
  ·exact absurd (look_low ha) hl
  ·exact Reaches.root (by simp) ha) (fun y r hy hly=>by
  cases hl0:look M.cs y with
  | none=>exact absurd hl0 hy.some
  | some r0=>
   have e1:=hE.sub _ _ hl0
   rw [hly] at e1
   cases e1
   have g:=h.goodRec hl0
   have c:=Reaches.closed M.cs [a] y r hy hl0
   refine⟨fun hc=>c.1 ?_,fun hc=>c.2 ?_⟩
   ·rw [hE.same g.lo] at hc;exact hc
   ·rw [hE.same g.hi] at hc;exact hc)
 cases hl0:look M.cs x with
 | none=>exact absurd hl0 key.some
 | some r0=>
  have hw:=hk x key
  rw [hl0] at hw
  rw [hE.sub _ _ hl0]
  show wrongB M' f r0=false
  rw [wrong_ext hE h hl0]
  exact hw

theorem okReach_node {M:St}{f a:Int}{r:Rec}(hl:look M.cs a=some r)(hw:wrongB M f r=false)(h1:okReach M f r.lo.to)(h2:okReach M f r.hi.to):okReach M f a:=by
 intro x hx
 have key:=hx (fun y=>y=a∨Reaches M.cs [r.lo.to] y∨Reaches M.cs [r.hi.to] y) (fun e he _=>by rw [List.mem_singleton] at he;exact .inl he) (fun y s hy hly=>by
  rcases hy with rfl|hy|hy
  ·rw [hl] at hly
   cases hly
   exact⟨fun hc=>.inr (.inl (Reaches.root (by simp) hc)),fun hc=>.inr (.inr (Reaches.root (by simp) hc))⟩
  ·have c:=Reaches.closed M.cs [r.lo.to] y s hy hly
   exact⟨fun hc=>.inr (.inl (c.1 hc)),fun hc=>.inr (.inl (c.2 hc))⟩
  ·have c:=Reaches.closed M.cs [r.hi.to] y s hy hly
   exact⟨fun hc=>.inr (.inr (c.1 hc)),fun hc=>.inr (.inr (c.2 hc))⟩)
 rcases key with rfl|hy|hy
 ·rw [hl];exact hw
 ·exact h1 x hy
 ·exact h2 x hy

theorem okReach_child {M:St}{f a:Int}{r:Rec}(hk:okReach M f a)(hl:look M.cs a=some r):okReach M f r.lo.to∧okReach M f r.hi.to:=by
 have ha:Reaches M.cs [a] a:=Reaches.root (by simp) (by rw [hl];simp)
 have c:=Reaches.closed M.cs [a] a r ha hl
 refine⟨fun x hx=>hk x (hx.below (fun y hy hyl=>?_)),fun x hx=>hk x (hx.below (fun y hy hyl=>?_))⟩
 ·rw [List.mem_singleton] at hy;subst hy;exact c.1 hyl
 ·rw [List.mem_singleton] at hy;subst hy;exact c.2 hyl

theorem leads_there {M:St}{f:Int}{e:Edge}{l:Int}(h:M.leads f e l=true):e.to<2∨look M.cs e.to≠none:=by
 rcases(leads_cases h).2 with h2|⟨r,hr,_⟩
 ·exact .inl h2
 ·exact .inr (by rw [hr];simp)

theorem right_ext {M M':St}(hE:Ext M M')(h:M.wf){f:Int}{e:Edge}{l:Int}(hr:rightL M f e l=true):rightL M' f e l=true:=by
 obtain⟨h1,h2⟩:=right_iff.1 hr
 exact right_iff.2 ⟨hE.leads h1,okReach_ext hE h (leads_there h1) h2⟩

theorem right_down {M:St}{f:Int}{e:Edge}{l l':Int}(hr:rightL M f e l=true)(h0:0≤l')(h1:l'≤l):rightL M f e l'=true:=by
 obtain⟨a,b⟩:=right_iff.1 hr
 exact right_iff.2 ⟨leads_down a h0 h1,b⟩

def mkA (f:Int)(M:St)(l:Int)(lo hi:Edge):(Edge×Int) ⊕ Rec:=
 if f=5 then tAct M l lo hi else if f=3 then makeAct M 3 l lo hi (cRest M l lo hi) else makeAct M 4 l lo hi (qRest M l lo hi)

def tagOf (f:Int)(r:Rec):Int:=if f=5 then r.top else 0

structure Both2 (f:Int)(M:St)(l:Int)(lo hi e:Edge):Prop where
 up:mkA f M l lo hi=.inl (e,0)∨∃ r,mkA f M l lo hi=.inr r∧look M.cs e.to=some r∧e.tag=tagOf f r
 down:viewAct M f e l=.inl (lo,hi,0)∨∃ q,viewAct M f e l=.inr q∧look M.cs lo.to=some q∧lo.tag=0∧hi=(if f=4 then lo else q.hi)
 right:rightL M f e l=true
 lo:rightL M f lo (l+1)=true
 hi:rightL M f hi (l+1)=true

theorem mk3 (M:St)(l:Int)(lo hi:Edge):mkA 3 M l lo hi=makeAct M 3 l lo hi (cRest M l lo hi):=rfl

theorem mk4 (M:St)(l:Int)(lo hi:Edge):mkA 4 M l lo hi=makeAct M 4 l lo hi (qRest M l lo hi):=rfl

theorem mk5 (M:St)(l:Int)(lo hi:Edge):mkA 5 M l lo hi=tAct M l lo hi:=rfl

theorem mk_ext {M M':St}(hE:Ext M M'){f l:Int}{lo hi:Edge}(h1:M.leads f lo (l+1)=true)(h2:M.leads f hi (l+1)=true)(hf:f=3∨f=4∨f=5):mkA f M' l lo hi=mkA f M l lo hi:=by
 have a:=hE.leads h1
 have b:=hE.leads h2
 have c:=hE.same h1
 rcases hf with rfl|rfl|rfl
 ·rw [mk3,mk3]
  unfold makeAct cRest
  rw [hE.n,a,b,h1,h2,c]
 ·rw [mk4,mk4]
  unfold makeAct qRest
  rw [hE.n,a,b,h1,h2,c]
 ·rw [mk5,mk5]
  unfold tAct
  rw [hE.n,a,b,h1,h2]

theorem view_ext {M M':St}(hE:Ext M M'){f l:Int}{e:Edge}(h1:M.leads f e l=true):viewAct M' f e l=viewAct M f e l:=by
 unfold viewAct
 rw [hE.n,hE.leads h1,h1,hE.same h1]

def mkE (f:Int)(M:St)(a:(Edge×Int) ⊕ Rec):Edge:=if f=5 then actE M a else actE0 M a

theorem node_good {M:St}{f l:Int}{lo hi:Edge}(h0:0≤l)(h1:l<M.n)(hlo:M.leads f lo (l+1)=true)(hhi:M.leads f hi (l+1)=true)(hz:f=2∨f=4→hi.to≠0)(hap:f≠2→f≠4→lo≠hi):M.bad ⟨f,l,l,lo,hi⟩=false:=by
 obtain⟨p1,p2,p3,p4,_⟩:=plainB_iff.1 (leads_iff.1 hlo).1
 have q1:=(leads_iff.1 hlo).1
 have q2:=(leads_iff.1 hhi).1
 unfold St.bad
 simp only [Bool.or_eq_false_iff,Bool.not_eq_false']
 refine⟨⟨?_,hlo⟩,hhi⟩
 unfold rightB isFormB mayB
 have c1:¬(!(decide (1≤f)&&decide (f≤5))||!(decide (0≤M.n)&&decide (M.n≤16))||decide (l<l)||decide (M.n≤l)||(l != l&&!chainedB f))=true:=by
  simp only [Bool.or_eq_true,Bool.not_eq_true',Bool.and_eq_true,Bool.and_eq_false_iff,decide_eq_false_iff_not,decide_eq_true_eq,bne_self_eq_false]
  simp
  omega
 rw [if_neg c1,if_neg (by rw [q1,q2];simp)]
 by_cases hf:f=2∨f=4
 ·rw [if_pos (by simpa using hf)]
  simpa using hz hf
 ·rw [if_neg (by simpa using hf)]
  have:=hap (by omega) (by omega)
  cases he:(lo.tag==hi.tag&&lo.to==hi.to) with
  | false=>rfl
  | true=>
   simp only [Bool.and_eq_true,beq_iff_eq] at he
   exact absurd (by cases lo;cases hi;simp at he;rw [he.1,he.2]) this

theorem chain_good {M:St}{f l:Int}{x:Rec}{id:Int}(h:M.wf)(hl:look M.cs id=some x)(hxf:x.form=f)(hf:f=3∨f=4)(h0:0≤l)(ht:x.top=l+1):M.bad ⟨f,l,x.bot,x.lo,x.hi⟩=false:=by
 have g:=h.goodRec hl
 have n16:=h.n16
 have n0:=h.n0
 have t1:=g.tb
 have t2:=g.bn
 have q1:=(leads_iff.1 g.lo).1
 have q2:=(leads_iff.1 g.hi).1
 have glo:=g.lo
 have ghi:=g.hi
 rw [hxf] at q1 q2 glo ghi
 unfold St.bad
 simp only [Bool.or_eq_false_iff,Bool.not_eq_false']
 refine⟨⟨?_,glo⟩,ghi⟩
 unfold rightB isFormB mayB chainedB
 have c1:¬(!(decide (1≤f)&&decide (f≤5))||!(decide (0≤M.n)&&decide (M.n≤16))||decide (x.bot<l)||decide (M.n≤x.bot)||(l != x.bot&&!(f==3||f==4)))=true:=by
  simp only [Bool.or_eq_true,Bool.not_eq_true',Bool.and_eq_true,Bool.and_eq_false_iff,Bool.or_eq_false_iff,decide_eq_false_iff_not,decide_eq_true_eq,beq_eq_false_iff_ne]
  omega
 rw [if_neg c1,if_neg (by rw [q1,q2];simp)]
 by_cases h4:f=4
 ·rw [if_pos (by simp [h4])]
  simpa using g.zero (.inr (by omega))
 ·rw [if_neg (by simp;omega)]
  have:=g.apart (by omega) (by omega)
  cases he:(x.lo.tag==x.hi.tag&&x.lo.to==x.hi.to) with
  | false=>rfl
  | true=>
   simp only [Bool.and_eq_true,beq_iff_eq] at he
   exact absurd (by cases hl:x.lo;cases hh:x.hi;rw [hl,hh] at he;simp at he;rw [he.1,he.2]) this

theorem find_ext {M:St}(h:M.wf){r:Rec}(hb:M.bad r=false)(hroom:M.len<M.room):Ext M (M.findSt r):=⟨(find_good h hb hroom).2.2.2.1,(find_good h hb hroom).2.2.1⟩

structure GrownBy (M M2:St)(k:Int):Prop where
 ext:Ext M M2
 wf:M2.wf
 len:M2.len≤M.len+k
 room:M2.room=M.room

theorem GrownBy.refl {M:St}(h:M.wf){k:Int}(hk:0≤k):GrownBy M M k:=⟨Ext.refl M,h,by omega,rfl⟩

theorem grown_find {M:St}(h:M.wf){r:Rec}(hb:M.bad r=false)(hroom:M.len<M.room):GrownBy M (M.findSt r) 1:=
 ⟨find_ext h hb hroom,h.find r,(findSt_len M r).2,findSt_room M r⟩

structure Makes (f:Int)(M:St)(l:Int)(lo hi:Edge):Prop where
 err:actErr M (mkA f M l lo hi)=0
 both:Both2 f (actSt M (mkA f M l lo hi)) l lo hi (mkE f M (mkA f M l lo hi))
 grown:GrownBy M (actSt M (mkA f M l lo hi)) 1

theorem makes_same {f:Int}{M:St}{l:Int}{lo hi e:Edge}(h:M.wf)(hm:mkA f M l lo hi=.inl (e,0))(hd:viewAct M f e l=.inl (lo,hi,0))(hr:rightL M f e l=true)(hlo:rightL M f lo (l+1)=true)(hhi:rightL M f hi (l+1)=true):Makes f M l lo hi:=by
 have e1:mkE f M (mkA f M l lo hi)=e:=by rw [hm];unfold mkE;split<;>rfl
 have e2:actSt M (mkA f M l lo hi)=M:=by rw [hm];rfl
 exact⟨by rw [hm];rfl,by rw [e1,e2];exact⟨.inl hm,.inl hd,hr,hlo,hhi⟩,by rw [e2];exact GrownBy.refl h (by omega)⟩

theorem makes_new {f:Int}{M:St}{l:Int}{lo hi:Edge}{r:Rec}(h:M.wf)(hf:f=3∨f=4∨f=5)(h0:0≤l)(h1:l<M.n)(hroom:M.len<M.room)(hm:mkA f M l lo hi=.inr r)(hb:M.bad r=false)(hrf:r.form=f)(hrt:r.top=l)
  (hd:∀ M2,Ext M M2→M2.wf→∀ id,2≤id→look M2.cs id=some r→M2.leads f ⟨tagOf f r,id⟩ l=true →
    viewAct M2 f ⟨tagOf f r,id⟩ l=.inl (lo,hi,0)∨∃ q,viewAct M2 f ⟨tagOf f r,id⟩ l=.inr q∧look M2.cs lo.to=some q∧lo.tag=0∧hi=(if f=4 then lo else q.hi))
  (hw:∀ M2,Ext M M2→M2.wf→wrongB M2 f r=false) (hk1:okReach M f r.lo.to) (hk2:okReach M f r.hi.to) (hlo:rightL M f lo (l+1)=true) (hhi:rightL M f hi (l+1)=true):Makes f M l lo hi:=by
 obtain⟨w1,w2,w3,w4,w5,w6⟩:=find_good h hb hroom
 have hE:=find_ext h hb hroom
 have g:GoodRec M r:=good_of hb
 have n16:=h.n16
 have n0:=h.n0
 have e2:actSt M (mkA f M l lo hi)=M.findSt r:=by rw [hm];rfl
 have et:0≤tagOf f r∧(f≠5→tagOf f r=0)∧(f=5→tagOf f r=l):=by
  unfold tagOf
  rcases hf with rfl|rfl|rfl
  ·refine⟨?_,fun _=>?_,fun hh=>by omega⟩<;>rw [if_neg (by decide)]<;>omega
  ·refine⟨?_,fun _=>?_,fun hh=>by omega⟩<;>rw [if_neg (by decide)]<;>omega
  ·refine⟨?_,fun hh=>absurd rfl hh,fun _=>?_⟩<;>rw [if_pos rfl]<;>omega
 have e1:mkE f M (mkA f M l lo hi)=⟨tagOf f r,M.findId r⟩:=by
  rw [hm]
  unfold mkE tagOf
  by_cases h5:f=5
  ·rw [if_pos h5,if_pos h5];exact foundE_ok w1
  ·rw [if_neg h5,if_neg h5];exact foundE_ok w1
 have hl:(M.findSt r).leads f ⟨tagOf f r,M.findId r⟩ l=true:=by
  refine leads_iff.2 ⟨plainB_iff.2 ⟨by omega,by omega,by rw [w4];exact n0,by rw [w4];exact n16,h0,by rw [w4];omega,fun hh=>?_,fun h5 _=>?_⟩,.inr ⟨r,w2,hrf,by omega,?_⟩⟩
  ·rcases hh with hh|hh
   ·exact et.2.1 hh
   ·have hh2:M.findId r=0:=hh
    omega
  ·have:=et.2.2 h5
   show l≤tagOf f r∧tagOf f r≤(M.findSt r).n
   rw [w4]
   omega
  ·show tagOf f r≤r.top
   by_cases h5:f=5
   ·have:=et.2.2 h5;omega
   ·have:=et.2.1 h5;omega
 refine⟨by rw [hm];exact w1,?_,by rw [e2];exact grown_find h hb hroom⟩
 rw [e1,e2]
 refine⟨.inr ⟨r,?_,w2,rfl⟩,hd _ hE w5 _ w6 w2 hl,right_iff.2 ⟨hl,?_⟩,right_ext hE h hlo,right_ext hE h hhi⟩
 ·rw [mk_ext hE (right_iff.1 hlo).1 (right_iff.1 hhi).1 hf]
  exact hm
 ·exact okReach_node w2 (hw _ hE w5) (okReach_ext hE h (leads_there g.lo) hk1) (okReach_ext hE h (leads_there g.hi) hk2)

theorem makes5 {M:St}(h:M.wf){l:Int}{lo hi:Edge}(h0:0≤l)(h1:l<M.n)(hroom:M.len<M.room)(hlo:rightL M 5 lo (l+1)=true)(hhi:rightL M 5 hi (l+1)=true):Makes 5 M l lo hi:=by
 obtain⟨a1,a2⟩:=right_iff.1 hlo
 obtain⟨b1,b2⟩:=right_iff.1 hhi
 obtain⟨p1,p2,p3,p4,p5,p6,p7,p8⟩:=plainB_iff.1 (leads_iff.1 a1).1
 obtain⟨s1,s2,s3,s4,s5,s6,s7,s8⟩:=plainB_iff.1 (leads_iff.1 b1).1
 have nv:¬(l<0∨M.n≤l):=by omega
 have nl:¬(M.leads 5 lo (l+1)=false∨M.leads 5 hi (l+1)=false):=by rw [a1,b1];simp
 by_cases c1:lo=hi
 ·subst c1
  have hd:=right_down hlo h0 (show l≤l+1 by omega)
  refine makes_same h (by rw [mk5];unfold tAct;rw [if_neg nv,if_neg nl,if_pos rfl]) ?_ hd hlo hhi
  have hz:lo.to=0∨l<lo.tag:=by
   by_cases z:lo.to=0
   ·exact .inl z
   ·have:=p8 rfl z;right;omega
  unfold viewAct
  rw [if_neg nv,if_neg (by rw [(right_iff.1 hd).1];simp),if_pos ⟨rfl,hz⟩]
 ·by_cases c2:hi.to=0∧lo.tag=l+1
  ·have z:lo.to≠0:=fun z=>by have:=p7 (.inr z);omega
   have hiz:hi=⟨0,0⟩:=by
    have:=s7 (.inr c2.1)
    cases hi
    simp at this c2
    rw [this,c2.1]
   have hlo':lo=⟨l+1,lo.to⟩:=by rw [← c2.2]
   have hleads:M.leads 5 ⟨l,lo.to⟩ l=true:=by
    refine leads_iff.2 ⟨plainB_iff.2 ⟨p1,p2,p3,p4,h0,by omega,fun hh=>?_,fun _ _=>⟨by show l≤l;omega,by show l≤M.n;omega⟩⟩,?_⟩
    ·rcases hh with hh|hh
     ·exact absurd rfl hh
     ·exact absurd hh z
    ·rcases(leads_iff.1 a1).2 with q|⟨r,q1,q2,q3,q4⟩
     ·exact .inl q
     ·exact .inr ⟨r,q1,q2,by omega,by show l≤r.top;omega⟩
   refine makes_same h (e:=⟨l,lo.to⟩) (by rw [mk5];unfold tAct;rw [if_neg nv,if_neg nl,if_neg c1,if_pos c2]) ?_ (right_iff.2 ⟨hleads,a2⟩) hlo hhi
   have evo:vOut 5 l ⟨l,lo.to⟩=(lo,hi,0):=by
    rw [hiz]
    show(if(5:Int)=1∨(5:Int)=3 then _ else if(5:Int)=5 then((⟨l+1,lo.to⟩,⟨0,0⟩,0):Edge×Edge×Int) else _)=_
    rw [if_neg (by decide),if_pos rfl,← hlo']
   unfold viewAct
   rw [if_neg nv,if_neg (by rw [hleads];simp),if_neg (by
    rintro⟨_,hh|hh⟩
    ·exact z hh
    ·have hh2:l<l:=hh
     omega)]
   show(match look M.cs lo.to with|none=>Sum.inl (vOut 5 l ⟨l,lo.to⟩)|some r=>_)=_
   cases hk:look M.cs lo.to with
   | none=>simp only [];rw [evo]
   | some r=>
    obtain⟨f1,f2,f3⟩:=leads_some a1 hk
    simp only []
    rw [if_pos (by omega),evo]
  ·have hgood:=node_good (f:=5) h0 h1 a1 b1 (by omega) (fun _ _=>c1)
   refine makes_new h (.inr (.inr rfl)) h0 h1 hroom (r:=⟨5,l,l,lo,hi⟩) (by rw [mk5];unfold tAct;rw [if_neg nv,if_neg nl,if_neg c1,if_neg c2]) hgood rfl rfl ?_ ?_ a2 b2 hlo hhi
   ·intro M2 hE hw2 id hid hl hleads
    left
    unfold viewAct
    rw [if_neg (by rw [hE.n];exact nv),if_neg (by rw [hleads];simp),if_neg (by
     rintro⟨_,hh|hh⟩
     ·have hh2:id=0:=hh
      omega
     ·have hh2:l<l:=hh
      omega)]
    show(match look M2.cs id with|none=>_|some r=>_)=_
    rw [hl]
    show(if l<l then _ else if((5:Int)=3∨(5:Int)=4)∧l≠l then _ else _)=_
    rw [if_neg (by omega),if_neg (by omega)]
   ·intro M2 _ _
    unfold wrongB
    rw [if_pos rfl]
    show(decide (hi.to=0)&&decide (lo.tag=l+1))=false
    cases hd:(decide (hi.to=0)&&decide (lo.tag=l+1)) with
    | false=>rfl
    | true=>
     rw [Bool.and_eq_true,decide_eq_true_eq,decide_eq_true_eq] at hd
     exact absurd hd c2

theorem makes3 {M:St}(h:M.wf){l:Int}{lo hi:Edge}(h0:0≤l)(h1:l<M.n)(hroom:M.len<M.room)(hlo:rightL M 3 lo (l+1)=true)(hhi:rightL M 3 hi (l+1)=true):Makes 3 M l lo hi:=by
 obtain⟨a1,a2⟩:=right_iff.1 hlo
 obtain⟨b1,b2⟩:=right_iff.1 hhi
 obtain⟨p1,p2,p3,p4,p5,p6,p7,p8⟩:=plainB_iff.1 (leads_iff.1 a1).1
 have nv:¬(l<0∨M.n≤l):=by omega
 have nl:¬(M.leads 3 lo (l+1)=false∨M.leads 3 hi (l+1)=false):=by rw [a1,b1];simp
 have nt:∀ e:Edge,¬((3:Int)=5∧(e.to=0∨l<e.tag)):=fun e=>by omega
 by_cases c1:lo=hi
 ·subst c1
  have hd:=right_down hlo h0 (show l≤l+1 by omega)
  refine makes_same h (by rw [mk3];unfold makeAct cRest;rw [if_neg nv,if_neg nl,if_pos rfl]) ?_ hd hlo hhi
  have evo:vOut 3 l lo=(lo,lo,0):=by simp [vOut]
  unfold viewAct
  rw [if_neg nv,if_neg (by rw [(right_iff.1 hd).1];simp),if_neg (nt lo)]
  cases hk:look M.cs lo.to with
  | none=>simp only [];rw [evo]
  | some r=>
   obtain⟨f1,f2,f3⟩:=leads_some a1 hk
   simp only []
   rw [if_pos (by omega),evo]
 ·by_cases c2:∃ x,look M.cs lo.to=some x∧x.top=l+1∧x.hi=hi
  ·obtain⟨x,hx,hxt,hxh⟩:=c2
   subst hxh
   obtain⟨f1,f2,f3⟩:=leads_some a1 hx
   have g:=h.goodRec hx
   have gtb:=g.tb
   obtain⟨k1,k2⟩:=okReach_child a2 hx
   have hgood:=chain_good h hx f1 (.inl rfl) h0 hxt
   refine makes_new h (.inl rfl) h0 h1 hroom (r:=⟨3,l,x.bot,x.lo,x.hi⟩) (by rw [mk3];unfold makeAct cRest;rw [if_neg nv,if_neg nl,if_neg c1,hx];show(if x.top=l+1 then(if x.hi=x.hi then _ else _) else _)=_;rw [if_pos hxt,if_pos rfl]) hgood rfl rfl ?_ ?_ k1 b2 hlo hhi
   ·intro M2 hE hw2 id hid hl hleads
    right
    refine⟨x,?_,hE.sub _ _ hx,p7 (.inl (by decide)),by rw [if_neg (by decide)]⟩
    unfold viewAct
    rw [if_neg (by rw [hE.n];exact nv),if_neg (by rw [hleads];simp),if_neg (nt _)]
    show(match look M2.cs id with|none=>_|some r=>_)=_
    rw [hl]
    show(if l<l then _ else if((3:Int)=3∨(3:Int)=4)∧x.bot≠l then Sum.inr (⟨3,l+1,x.bot,x.lo,x.hi⟩:Rec) else _)=_
    rw [if_neg (by omega),if_pos ⟨.inl rfl,by omega⟩]
    congr 1
    cases x
    simp_all
   ·intro M2 hE _
    have hw:=a2 lo.to (Reaches.root (by simp) (by rw [hx];simp))
    rw [hx] at hw
    have hw2:wrongB M2 3 x=false:=(wrong_ext hE h hx).trans hw
    exact hw2
  ·have hgood:=node_good (f:=3) h0 h1 a1 b1 (by omega) (fun _ _=>c1)
   have hm:mkA 3 M l lo hi=.inr ⟨3,l,l,lo,hi⟩:=by
    rw [mk3]
    unfold makeAct cRest
    rw [if_neg nv,if_neg nl,if_neg c1]
    cases hx:look M.cs lo.to with
    | none=>rfl
    | some x=>
     simp only []
     by_cases d1:x.top=l+1
     ·rw [if_pos d1,if_neg (fun d2=>c2 ⟨x,hx,d1,d2⟩)]
     ·rw [if_neg d1]
   refine makes_new h (.inl rfl) h0 h1 hroom hm hgood rfl rfl ?_ ?_ a2 b2 hlo hhi
   ·intro M2 hE hw2 id hid hl hleads
    left
    unfold viewAct
    rw [if_neg (by rw [hE.n];exact nv),if_neg (by rw [hleads];simp),if_neg (nt _)]
    show(match look M2.cs id with|none=>_|some r=>_)=_
    rw [hl]
    show(if l<l then _ else if((3:Int)=3∨(3:Int)=4)∧l≠l then _ else _)=_
    rw [if_neg (by omega),if_neg (by omega)]
   ·intro M2 hE _
    unfold wrongB
    rw [if_neg (by decide)]
    show(match look M2.cs lo.to with|none=>false|some y=>_)=false
    rw [hE.same a1]
    cases hx:look M.cs lo.to with
    | none=>rfl
    | some x=>
     show(decide (x.top=l+1)&&(if(3:Int)=4 then decide (lo=hi) else decide (x.hi=hi)))=false
     rw [if_neg (by decide)]
     cases hd:(decide (x.top=l+1)&&decide (x.hi=hi)) with
     | false=>rfl
     | true=>
      rw [Bool.and_eq_true,decide_eq_true_eq,decide_eq_true_eq] at hd
      exact absurd ⟨x,hx,hd.1,hd.2⟩ c2

theorem makes4 {M:St}(h:M.wf){l:Int}{lo hi:Edge}(h0:0≤l)(h1:l<M.n)(hroom:M.len<M.room)(hlo:rightL M 4 lo (l+1)=true)(hhi:rightL M 4 hi (l+1)=true):Makes 4 M l lo hi:=by
 obtain⟨a1,a2⟩:=right_iff.1 hlo
 obtain⟨b1,b2⟩:=right_iff.1 hhi
 obtain⟨p1,p2,p3,p4,p5,p6,p7,p8⟩:=plainB_iff.1 (leads_iff.1 a1).1
 obtain⟨s1,s2,s3,s4,s5,s6,s7,s8⟩:=plainB_iff.1 (leads_iff.1 b1).1
 have nv:¬(l<0∨M.n≤l):=by omega
 have nl:¬(M.leads 4 lo (l+1)=false∨M.leads 4 hi (l+1)=false):=by rw [a1,b1];simp
 have nt:∀ e:Edge,¬((4:Int)=5∧(e.to=0∨l<e.tag)):=fun e=>by omega
 by_cases c1:hi.to=0
 ·have hiz:hi=⟨0,0⟩:=by
   have:=s7 (.inl (by decide))
   cases hi
   simp at this c1
   rw [this,c1]
  have hd:=right_down hlo h0 (show l≤l+1 by omega)
  refine makes_same h (by rw [mk4];unfold makeAct qRest;rw [if_neg nv,if_neg nl,if_pos c1]) ?_ hd hlo hhi
  have evo:vOut 4 l lo=(lo,hi,0):=by rw [hiz];simp [vOut]
  unfold viewAct
  rw [if_neg nv,if_neg (by rw [(right_iff.1 hd).1];simp),if_neg (nt lo)]
  cases hk:look M.cs lo.to with
  | none=>simp only [];rw [evo]
  | some r=>
   obtain⟨f1,f2,f3⟩:=leads_some a1 hk
   simp only []
   rw [if_pos (by omega),evo]
 ·by_cases c2:lo=hi∧∃ x,look M.cs lo.to=some x∧x.top=l+1
  ·obtain⟨rfl,x,hx,hxt⟩:=c2
   obtain⟨f1,f2,f3⟩:=leads_some a1 hx
   have g:=h.goodRec hx
   have gtb:=g.tb
   obtain⟨k1,k2⟩:=okReach_child a2 hx
   have hgood:=chain_good h hx f1 (.inr rfl) h0 hxt
   refine makes_new h (.inr (.inl rfl)) h0 h1 hroom (r:=⟨4,l,x.bot,x.lo,x.hi⟩) (by rw [mk4];unfold makeAct qRest;rw [if_neg nv,if_neg nl,if_neg c1,hx];show(if lo=lo then(if x.top=l+1 then _ else _) else _)=_;rw [if_pos rfl,if_pos hxt]) hgood rfl rfl ?_ ?_ k1 k2 hlo hhi
   ·intro M2 hE hw2 id hid hl hleads
    right
    refine⟨x,?_,hE.sub _ _ hx,p7 (.inl (by decide)),by rw [if_pos rfl]⟩
    unfold viewAct
    rw [if_neg (by rw [hE.n];exact nv),if_neg (by rw [hleads];simp),if_neg (nt _)]
    show(match look M2.cs id with|none=>_|some r=>_)=_
    rw [hl]
    show(if l<l then _ else if((4:Int)=3∨(4:Int)=4)∧x.bot≠l then Sum.inr (⟨4,l+1,x.bot,x.lo,x.hi⟩:Rec) else _)=_
    rw [if_neg (by omega),if_pos ⟨.inr rfl,by omega⟩]
    congr 1
    cases x
    simp_all
   ·intro M2 hE _
    have hw:=a2 lo.to (Reaches.root (by simp) (by rw [hx];simp))
    rw [hx] at hw
    have hw2:wrongB M2 4 x=false:=(wrong_ext hE h hx).trans hw
    exact hw2
  ·have hgood:=node_good (f:=4) h0 h1 a1 b1 (fun _=>c1) (by omega)
   have hm:mkA 4 M l lo hi=.inr ⟨4,l,l,lo,hi⟩:=by
    rw [mk4]
    unfold makeAct qRest
    rw [if_neg nv,if_neg nl,if_neg c1]
    cases hx:look M.cs lo.to with
    | none=>rfl
    | some x=>
     simp only []
     by_cases d1:lo=hi
     ·rw [if_pos d1,if_neg (fun d2=>c2 ⟨d1,x,hx,d2⟩)]
     ·rw [if_neg d1]
   refine makes_new h (.inr (.inl rfl)) h0 h1 hroom hm hgood rfl rfl ?_ ?_ a2 b2 hlo hhi
   ·intro M2 hE hw2 id hid hl hleads
    left
    unfold viewAct
    rw [if_neg (by rw [hE.n];exact nv),if_neg (by rw [hleads];simp),if_neg (nt _)]
    show(match look M2.cs id with|none=>_|some r=>_)=_
    rw [hl]
    show(if l<l then _ else if((4:Int)=3∨(4:Int)=4)∧l≠l then _ else _)=_
    rw [if_neg (by omega),if_neg (by omega)]
   ·intro M2 hE _
    unfold wrongB
    rw [if_neg (by decide)]
    show(match look M2.cs lo.to with|none=>false|some y=>_)=false
    rw [hE.same a1]
    cases hx:look M.cs lo.to with
    | none=>rfl
    | some x=>
     show(decide (x.top=l+1)&&(if(4:Int)=4 then decide (lo=hi) else decide (x.hi=hi)))=false
     rw [if_pos rfl]
     cases hd:(decide (x.top=l+1)&&decide (lo=hi)) with
     | false=>rfl
     | true=>
      rw [Bool.and_eq_true,decide_eq_true_eq,decide_eq_true_eq] at hd
      exact absurd ⟨hd.2,x,hx,hd.1⟩ c2

open Go.RowKit

theorem size_calls (n:Nat)(hn:n≤20)(w:World):Calls Tryz.prog 52 #[.int .i64 (n:Int)] w fun e w'=>e=.returned (.int .i64 ((2 ^ n:Nat):Int))∧w=w':=by
 go_enter Tryz.func52,Tryz.ntmps52
 go_wp2
 go_loopg [3,4] n (fun gk s3 s4 wr=>∃ d:Nat,d+gk=n∧s4=.int .i64 (d:Int)∧s3=.int .i64 ((2 ^ d:Nat):Int)∧w=wr)
 case atStart=>exact⟨0,by omega,rfl,rfl,rfl⟩
 case round=>
  obtain⟨d,hd,rfl,rfl,rfl⟩:=hrel
  by_cases hlt:d<n
  ·have h1:2 ^ d≤2 ^ 20:=Nat.pow_le_pow_right (by decide) (by omega)
   have e20:(2:Nat) ^ 20=1048576:=rfl
   obtain⟨p,hp⟩:∃ p,p=2 ^ d:=⟨_,rfl⟩
   have hp2:2 ^ (d+1)=2*p:=by rw [hp,Nat.pow_succ];omega
   rw [← hp] at h1 ⊢
   rw [e20] at h1
   have HP:=Lib.hid hp
   have HP2:=Lib.hid hp2
   clear hp hp2
   go_wp2
   go_roundg (gk-1)
   case rel=>exact⟨d+1,by omega,by simp,by rw [HP2.out];push_cast;congr 1,rfl⟩
   case measure=>omega
  ·have e:d=n:=by omega
   subst e
   go_wp2
   go_ret
   exact⟨rfl,rfl⟩

def endE (f:Int)(b:Bool)(l:Int):Edge:=if b then(if f=5 then⟨l,1⟩ else⟨0,1⟩) else⟨0,0⟩

theorem endE_ok {f:Int}{b:Bool}{l:Int}(h0:0≤l)(h1:l≤16):(endE f b l).ok:=by
 unfold endE
 split
 ·split
  ·exact⟨⟨by show 0≤l;omega,by show l≤255;omega⟩,⟨by show(0:Int)≤1;omega,by show(1:Int)≤4294967295;omega⟩⟩
  ·exact⟨by decide,by decide⟩
 ·exact⟨by decide,by decide⟩

theorem endE_right {M:St}(h:M.wf){f:Int}{b:Bool}(hf:f=3∨f=4∨f=5):rightL M f (endE f b M.n) M.n=true:=by
 have n0:=h.n0
 have n16:=h.n16
 have hlt:(endE f b M.n).to<2:=by
  unfold endE
  split
  ·split
   ·show(1:Int)<2;omega
   ·show(1:Int)<2;omega
  ·show(0:Int)<2;omega
 refine right_iff.2 ⟨leads_iff.2 ⟨plainB_iff.2 ⟨by omega,by omega,n0,n16,n0,by omega,fun hh=>?_,fun h5 hz=>?_⟩,.inl hlt⟩,okReach_low (look_low hlt)⟩
 ·unfold endE at hh ⊢
  split at hh
  ·split at hh
   ·rename_i h5
    rcases hh with hh|hh
    ·exact absurd h5 hh
    ·have hh2:(1:Int)=0:=hh
     omega
   ·rw [if_pos (by assumption),if_neg (by assumption)]
  ·rw [if_neg (by assumption)]
 ·unfold endE at hz ⊢
  split at hz
  ·rw [if_pos (by assumption),if_pos h5]
   exact⟨by show M.n≤M.n;omega,by show M.n≤M.n;omega⟩
  ·exact absurd rfl hz

theorem GrownBy.trans {a b c:St}{j k m:Int}(h:GrownBy a b j)(h2:GrownBy b c k)(hm:j+k≤m):GrownBy a c m:=
 ⟨h.ext.trans h2.ext,h2.wf,by have:=h.len;have:=h2.len;omega,h2.room.trans h.room⟩

theorem mkE_ok {f:Int}{M:St}{l:Int}{lo hi:Edge}(h:M.wf)(hf:M.cs.length≤1048576)(hlo:lo.ok)(hhi:hi.ok)(h0:0≤l)(h1:l≤255)(hff:f=3∨f=4∨f=5):(mkE f M (mkA f M l lo hi)).ok:=by
 rcases hff with rfl|rfl|rfl
 ·rw [mk3]
  show(actE0 M _).ok
  unfold makeAct cRest
  repeat' split
  all_goals first|exact edge0_ok|exact hlo|exact foundE_fit h hf 0 (by omega) _
 ·rw [mk4]
  show(actE0 M _).ok
  unfold makeAct qRest
  repeat' split
  all_goals first|exact edge0_ok|exact hlo|exact foundE_fit h hf 0 (by omega) _
 ·rw [mk5]
  show(actE M _).ok
  unfold tAct
  repeat' split
  all_goals first|exact edge0_ok|exact hlo|exact⟨⟨h0,h1⟩,hlo.2⟩|exact foundE_fit h hf l ⟨h0,h1⟩ _

structure Stood (F:Nat→Prop)(W w':World)(sb:Nat)(M:St):Prop where
 ex:∃ F',StoreRep F' w' sb M∧∀ j,F' j→F j∨W.heap.size≤j
 upd:Upd F W w'

theorem Stood.refl {F:Nat→Prop}{W:World}{sb:Nat}{M:St}(h:StoreRep F W sb M):Stood F W W sb M:=⟨⟨F,h,fun _ hj=>.inl hj⟩,Upd.refl _ _⟩

theorem Stood.keeps {F:Nat→Prop}{W w1 w2:World}{sb:Nat}{M:St}(h:Stood F W w1 sb M)(hk:Keeps w1 w2):Stood F W w2 sb M:=by
 obtain⟨⟨F',h1,h2⟩,h3⟩:=h
 exact⟨⟨F',h1.keeps hk,h2⟩,h3.trans' (Keeps.upd hk _)⟩

theorem Stood.call {F:Nat→Prop}{W w1 w2:World}{sb:Nat}{M M2:St}(h:Stood F W w1 sb M)(hc:∀ F',StoreRep F' w1 sb M→(∀ j,F' j→F j∨W.heap.size≤j)→Stood F' w1 w2 sb M2):Stood F W w2 sb M2:=by
 obtain⟨⟨F',h1,h2⟩,h3⟩:=h
 obtain⟨⟨F2,q1,q2⟩,q3⟩:=hc F' h1 h2
 have z:=h3.size
 refine⟨⟨F2,q1,fun j hj=>?_⟩,h3.trans (q3.mono (fun k hk hf=>?_))⟩
 ·rcases q2 j hj with hj|hj
  ·exact h2 j hj
  ·right;omega
 ·rcases h2 k hf with hf|hf
  ·exact .inl hf
  ·exact .inr ⟨hf,hk⟩

theorem Stood.after {F:Nat→Prop}{W W0 w1:World}{sb:Nat}{M:St}(hk:Keeps W W0)(h:Stood F W0 w1 sb M):Stood F W w1 sb M:=by
 obtain⟨⟨F',h1,h2⟩,h3⟩:=h
 have z:=hk.size
 exact⟨⟨F',h1,fun j hj=>by rcases h2 j hj with q|q;exact .inl q;right;omega⟩,(Keeps.upd hk F).trans' h3⟩

theorem Stood.step {F F1:Nat→Prop}{W w1 W1 w2:World}{sb:Nat}{M:St}(hsub:∀ j,F1 j→F j∨W.heap.size≤j)(hu:Upd F W w1)(hk:Keeps w1 W1)(h:Stood F1 W1 w2 sb M):Stood F W w2 sb M:=by
 obtain⟨⟨F2,h1,h2⟩,h3⟩:=h
 have z:=hu.size
 have z2:=hk.size
 refine⟨⟨F2,h1,fun j hj=>?_⟩,(hu.trans' (Keeps.upd hk F)).trans (h3.mono (fun k hk2 hf=>?_))⟩
 ·rcases h2 j hj with hj|hj
  ·exact hsub j hj
  ·right;omega
 ·rcases hsub k hf with hf|hf
  ·exact .inl hf
  ·exact .inr ⟨hf,hk2⟩

theorem Stood.putAt {F F3:Nat→Prop}{w w3:World}{sb:Nat}{M:St}(r3:StoreRep F3 w3 sb M)(sub:∀ j,F3 j→F j∨w.heap.size≤j)(u:Upd F w w3){b:Nat}(hn:¬F3 b)(hb:w.heap.size≤b)(v0 v1:Value) :
  Stood F w ((w3.setCell ⟨b,0,none⟩ v0).setCell ⟨b,1,none⟩ v1) sb M:=by
 have hu:Upd (fun k=>k=b) w3 ((w3.setCell ⟨b,0,none⟩ v0).setCell ⟨b,1,none⟩ v1):=((Upd.refl (fun k=>k=b) w3).setCell (p:=⟨b,0,none⟩) (Or.inl rfl) v0).setCell (p:=⟨b,1,none⟩) (Or.inl rfl) v1
 exact⟨⟨F3,r3.keep hu (fun k hk e=>hn (e ▸ hk)),sub⟩,(u.setCell (p:=⟨b,0,none⟩) (Or.inr hb) v0).setCell (p:=⟨b,1,none⟩) (Or.inr hb) v1⟩

theorem Stood.of {F:Nat→Prop}{W w':World}{sb:Nat}{M:St}(hu:Upd F W w')(hS:StoreRep (Grow F W w') w' sb M):Stood F W w' sb M:=
 ⟨⟨_,hS,fun j hj=>by rcases hj with hj|hj;exact .inl hj;exact .inr hj.1⟩,hu⟩

theorem Stood.frz {F:Nat→Prop}{W w':World}{sb:Nat}{M:St}(h:Stood F W w' sb M){b o:Nat}(hl:b<W.heap.size)(hb:¬F b)(hc:W.frozen? ⟨b,o,none⟩=false):w'.frozen? ⟨b,o,none⟩=false:=
 (World.frozen?_of_block (a:=⟨b,o,none⟩) (h.upd.block b hl hb)).trans hc

theorem Stood.cell {F:Nat→Prop}{W w':World}{sb:Nat}{M:St}(h:Stood F W w' sb M){b o:Nat}{v:Value}(hb:¬F b)(hc:W.cell? ⟨b,o,none⟩=some v):w'.cell? ⟨b,o,none⟩=some v:=h.upd.cellAt hb hc

end Go.Proofs.YtpgcbmbnognieaaGreat
