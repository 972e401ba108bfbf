/-
  Plainly: what Make makes of two right edges is right, and View of it tells the two again: any form with chains or tags.
-/
import Derived.Test.YtafkamlhimkbmaaGreatPRightA
namespace Go.Proofs.YtafkamlhimkbmaaGreat
set_option maxRecDepth 1000000
set_option maxHeartbeats 8000000
set_option linter.unusedSimpArgs false
set_option linter.unusedVariables false

structure az (M M':St):Prop where
 n:M'.n=M.n
 sub:∀id r,look M.cs id=some r→look M'.cs id=some r

theorem az.refl (M:St):az M M:=⟨rfl,fun _ _ h=>h⟩

theorem az.trans {a b c:St}(h:az a b)(k:az b c):az a c:=⟨k.n.trans h.n,fun id r j=>k.sub id r (h.sub id r j)⟩

theorem dR {cs:List (Option Rec)}{id:Int}(h:id<2):look cs id=none:=by unfold look;rw[if_pos h]

theorem az.c8 {M M':St}(h:az M M'){f:Int}{e:Edge}{l:Int}(j:M.leads f e l=true):look M'.cs e.to=look M.cs e.to:=by
 rcases(gQ j).2 with j|⟨r,q,_⟩;·rw[dR j,dR j]
 ·rw[q,h.sub _ _ q]

theorem az.leads {M M':St}(h:az M M'){f:Int}{e:Edge}{l:Int}(j:M.leads f e l=true):M'.leads f e l=true:=mF h.n h.sub j

def eN (M:St)(f a:Int):Prop:=∀x,Reaches M.cs [a] x→aV M f (an (look M.cs x))=false

theorem cC {M:St}{f:Int}{e:Edge}{l:Int}:bf M f e l=true↔(M.leads f e l=true∧eN M f e.to):=by
 unfold bf;rw[Bool.and_eq_true,List.all_eq_true];constructor
 ·rintro⟨j,q⟩;refine⟨j,fun x s=>?_⟩;have:=q x (eL.2 s);simpa using this
 ·rintro⟨j,q⟩;refine⟨j,fun x s=>?_⟩;rw[q x (eL.1 s)];rfl

theorem mY {M:St}{f a:Int}(h:look M.cs a=none):eN M f a:=by
 intro x s;have:=s (fun _=>False) (fun e j q=>by rw[List.mem_singleton]at j;subst j;exact q h) (fun _ _ h _=>h.elim);exact this.elim

theorem jX {M M':St}(j:az M M')(h:M.wf){f id:Int}{r:Rec}(q:look M.cs id=some r):aV M' f r=aV M f r:=by
 unfold aV;split;·rfl
 ·rw[j.c8 (h.b8 q).lo]

theorem jJ {M M':St}(q:az M M')(h:M.wf){f a:Int}(s:a<2∨look M.cs a≠none)(I:eN M f a):eN M' f a:=by
 intro x L
 have key:=L (fun y=>Reaches M.cs [a] y) (fun e z J=>by
  rw[List.mem_singleton]at z;subst z;rcases s with s|s;·exact absurd (dR s) J
  ·exact Reaches.root (by simp) s) (fun y r A K=>by
  cases j:look M.cs y with
  |none=>exact absurd j A.some
  |some E=>
   have t:=q.sub _ _ j;rw[K]at t;cases t;have g:=h.b8 j;have c:=Reaches.closed M.cs [a] y r A j;refine⟨fun s=>c.1 ?_,fun s=>c.2 ?_⟩;·rw[q.c8 g.lo]at s;exact s
   ·rw[q.c8 g.hi]at s;exact s)
 cases j:look M.cs x with
 |none=>exact absurd j key.some
 |some E=>
  have s:=I x key;rw[j]at s;rw[q.sub _ _ j];show aV M' f E=false;rw[jX q h j];exact s

theorem qu {M:St}{f a:Int}{r:Rec}(z:look M.cs a=some r)(J:aV M f r=false)(E:eN M f r.lo.to)(I:eN M f r.hi.to):eN M f a:=by
 intro x t
 have key:=t (fun y=>y=a∨Reaches M.cs [r.lo.to] y∨Reaches M.cs [r.hi.to] y) (fun e t _=>by rw[List.mem_singleton]at t;exact .inl t) (fun y A q s=>by
  rcases q with rfl|q|q
  ·rw[z]at s;cases s;exact⟨fun j=>.inr (.inl (Reaches.root (by simp) j)),fun j=>.inr (.inr (Reaches.root (by simp) j))⟩
  ·have c:=Reaches.closed M.cs [r.lo.to] y A q s;exact⟨fun j=>.inr (.inl (c.1 j)),fun j=>.inr (.inl (c.2 j))⟩
  ·have c:=Reaches.closed M.cs [r.hi.to] y A q s
   exact⟨fun j=>.inr (.inr (c.1 j)),fun j=>.inr (.inr (c.2 j))⟩)
 rcases key with rfl|q|q;·rw[z];exact J
 ·exact E x q
 ·exact I x q

theorem kU {M:St}{f a:Int}{r:Rec}(t:eN M f a)(q:look M.cs a=some r):eN M f r.lo.to∧eN M f r.hi.to:=by
 have z:Reaches M.cs [a] a:=Reaches.root (by simp) (by rw[q];simp);have c:=Reaches.closed M.cs [a] a r z q;refine⟨fun x q=>t x (q.below (fun y j s=>?_)),fun x q=>t x (q.below (fun y j s=>?_))⟩;·rw[List.mem_singleton]at j;subst j;exact c.1 s
 ·rw[List.mem_singleton]at j;subst j;exact c.2 s

theorem jB {M:St}{f:Int}{e:Edge}{l:Int}(h:M.leads f e l=true):e.to<2∨look M.cs e.to≠none:=by
 rcases(gQ h).2 with j|⟨r,q,_⟩;·exact .inl j
 ·exact .inr (by rw[q];simp)

theorem nJ {M M':St}(q:az M M')(h:M.wf){f:Int}{e:Edge}{l:Int}(t:bf M f e l=true):bf M' f e l=true:=by
 obtain⟨j,s⟩:=cC.1 t;exact cC.2 ⟨q.leads j,jJ q h (jB j) s⟩

theorem nI {M:St}{f:Int}{e:Edge}{l l':Int}(s:bf M f e l=true)(j:0≤l')(q:l'≤l):bf M f e l'=true:=by
 obtain⟨a,b⟩:=cC.1 s;exact cC.2 ⟨kH a j q,b⟩

def cG (f:Int)(M:St)(l:Int)(lo hi:Edge):(Edge×Int) ⊕ Rec:=
 if f=5 then bo M l lo hi else if f=3 then al M 3 l lo hi (aW M l lo hi)else al M 4 l lo hi (aZ M l lo hi)

def df (f:Int)(r:Rec):Int:=if f=5 then r.I else 0

structure lI (f:Int)(M:St)(l:Int)(lo hi e:Edge):Prop where
 up:cG f M l lo hi=.inl (e,0)∨∃r,cG f M l lo hi=.inr r∧look M.cs e.to=some r∧e.tag=df f r
 ek:af M f e l=.inl (lo,hi,0)∨∃q,af M f e l=.inr q∧look M.cs lo.to=some q∧lo.tag=0∧hi=(if f=4 then lo else q.hi)
 right:bf M f e l=true
 lo:bf M f lo (l+1)=true
 hi:bf M f hi (l+1)=true

theorem iQ (M:St)(l:Int)(lo hi:Edge):cG 3 M l lo hi=al M 3 l lo hi (aW M l lo hi):=rfl

theorem iR (M:St)(l:Int)(lo hi:Edge):cG 4 M l lo hi=al M 4 l lo hi (aZ M l lo hi):=rfl

theorem iS (M:St)(l:Int)(lo hi:Edge):cG 5 M l lo hi=bo M l lo hi:=rfl

theorem xV {M M':St}(j:az M M'){f l:Int}{lo hi:Edge}(q:M.leads f lo (l+1)=true)(s:M.leads f hi (l+1)=true)(t:f=3∨f=4∨f=5):cG f M' l lo hi=cG f M l lo hi:=by
 have a:=j.leads q;have b:=j.leads s;have c:=j.c8 q;rcases t with rfl|rfl|rfl
 ·rw[iQ,iQ];unfold al aW;rw[j.n,a,b,q,s,c]
 ·rw[iR,iR];unfold al aZ;rw[j.n,a,b,q,s,c]
 ·rw[iS,iS];unfold bo;rw[j.n,a,b,q,s]

theorem rX {M M':St}(q:az M M'){f l:Int}{e:Edge}(j:M.leads f e l=true):af M' f e l=af M f e l:=by
 unfold af;rw[q.n,q.leads j,j,q.c8 j]

def aH (f:Int)(M:St)(a:(Edge×Int) ⊕ Rec):Edge:=if f=5 then iJ M a else dA M a

theorem iT {M:St}{f l:Int}{lo hi:Edge}(J:0≤l)(K:l<M.n)(q:M.leads f lo (l+1)=true)(s:M.leads f hi (l+1)=true)(A:f=2∨f=4→hi.to≠0)(z:f≠2→f≠4→lo≠hi):M.bq ⟨f,l,l,lo,hi⟩=false:=by
 obtain⟨J,K,L,N,_⟩:=bm.1 (aY.1 q).1;have E:=(aY.1 q).1;have I:=(aY.1 s).1;unfold St.bq;simp only[Bool.or_eq_false_iff,Bool.not_eq_false'];refine⟨⟨?_,q⟩,s⟩;unfold gU bG fT
 have t:¬(!(decide (1≤f)&&decide (f≤5))||!(decide (0≤M.n)&&decide (M.n≤16))||decide (l<l)||decide (M.n≤l)||(l != l&&!eY f))=true:=by
  simp only[Bool.or_eq_true,Bool.not_eq_true',Bool.and_eq_true,Bool.and_eq_false_iff,decide_eq_false_iff_not,decide_eq_true_eq,bne_self_eq_false];simp;omega
 rw[if_neg t,if_neg (by rw[E,I];simp)];by_cases q:f=2∨f=4
 ·rw[if_pos (by simpa using q)];simpa using A q
 ·rw[if_neg (by simpa using q)];have:=z (by omega) (by omega);cases j:(lo.tag==hi.tag&&lo.to==hi.to)with
  |false=>rfl
  |true=>
   simp only[Bool.and_eq_true,beq_iff_eq]at j;exact absurd (by cases lo;cases hi;simp at j;rw[j.1,j.2]) this

theorem kj {M:St}{f l:Int}{x:Rec}{id:Int}(h:M.wf)(q:look M.cs id=some x)(J:x.ad=f)(L:f=3∨f=4)(K:0≤l)(N:x.I=l+1):M.bq ⟨f,l,x.J,x.lo,x.hi⟩=false:=by
 have g:=h.b8 q;have K:=h.bw;have K:=h.n0;have K:=g.tb;have K:=g.bn;have z:=(aY.1 g.lo).1;have A:=(aY.1 g.hi).1;have t:=g.lo;have s:=g.hi;rw[J]at z A t s;unfold St.bq;simp only[Bool.or_eq_false_iff,Bool.not_eq_false'];refine⟨⟨?_,t⟩,s⟩;unfold gU bG fT eY
 have E:¬(!(decide (1≤f)&&decide (f≤5))||!(decide (0≤M.n)&&decide (M.n≤16))||decide (x.J<l)||decide (M.n≤x.J)||(l != x.J&&!(f==3||f==4)))=true:=by
  simp only[Bool.or_eq_true,Bool.not_eq_true',Bool.and_eq_true,Bool.and_eq_false_iff,Bool.or_eq_false_iff,decide_eq_false_iff_not,decide_eq_true_eq,beq_eq_false_iff_ne];omega
 rw[if_neg E,if_neg (by rw[z,A];simp)];by_cases I:f=4
 ·rw[if_pos (by simp[I])];simpa using g.zero (.inr (by omega))
 ·rw[if_neg (by simp;omega)];have:=g.apart (by omega) (by omega);cases j:(x.lo.tag==x.hi.tag&&x.lo.to==x.hi.to)with
  |false=>rfl
  |true=>
   simp only[Bool.and_eq_true,beq_iff_eq]at j;exact absurd (by cases q:x.lo;cases s:x.hi;rw[q,s]at j;simp at j;rw[j.1,j.2]) this

theorem ml {M:St}(h:M.wf){r:Rec}(j:M.bq r=false)(q:M.len<M.room):az M (M.a6 r):=⟨(ju h j q).2.2.2.1,(ju h j q).2.2.1⟩

structure dg (M M2:St)(k:Int):Prop where
 ext:az M M2
 wf:M2.wf
 len:M2.len≤M.len+k
 room:M2.room=M.room

theorem dg.refl {M:St}(h:M.wf){k:Int}(j:0≤k):dg M M k:=⟨az.refl M,h,by omega,rfl⟩

theorem mq {M:St}(h:M.wf){r:Rec}(j:M.bq r=false)(q:M.len<M.room):dg M (M.a6 r) 1:=
 ⟨ml h j q,h.g0 r,(vw M r).2,vy M r⟩

structure gY (f:Int)(M:St)(l:Int)(lo hi:Edge):Prop where
 hl:bX M (cG f M l lo hi)=0
 f':lI f (aR M (cG f M l lo hi)) l lo hi (aH f M (cG f M l lo hi))
 cy:dg M (aR M (cG f M l lo hi)) 1

theorem kL {f:Int}{M:St}{l:Int}{lo hi e:Edge}(h:M.wf)(j:cG f M l lo hi=.inl (e,0))(t:af M f e l=.inl (lo,hi,0))(E:bf M f e l=true)(A:bf M f lo (l+1)=true)(z:bf M f hi (l+1)=true):gY f M l lo hi:=by
 have s:aH f M (cG f M l lo hi)=e:=by rw[j];unfold aH;split<;>rfl
 have q:aR M (cG f M l lo hi)=M:=by rw[j];rfl
 exact⟨by rw[j];rfl,by rw[s,q];exact⟨.inl j,.inl t,E,A,z⟩,by rw[q];exact dg.refl h (by omega)⟩

theorem jG {f:Int}{M:St}{l:Int}{lo hi:Edge}{r:Rec}(h:M.wf)(O:f=3∨f=4∨f=5)(Y:0≤l)(a3:l<M.n)(K:M.len<M.room)(E:cG f M l lo hi=.inr r)(A:M.bq r=false)(am:r.ad=f)(a4:r.I=l)
  (Z:∀j,az M j→j.wf→∀id,2≤id→look j.cs id=some r→j.leads f ⟨df f r,id⟩ l=true →
    af j f ⟨df f r,id⟩ l=.inl (lo,hi,0)∨∃L,af j f ⟨df f r,id⟩ l=.inr L∧look j.cs lo.to=some L∧lo.tag=0∧hi=(if f=4 then lo else L.hi))
  (av:∀j,az M j→j.wf→aV j f r=false) (ab:eN M f r.lo.to) (ad:eN M f r.hi.to) (U:bf M f lo (l+1)=true) (S:bf M f hi (l+1)=true):gY f M l lo hi:=by
 obtain⟨w1,I,j,J,W,a2⟩:=ju h A K
 have t:=ml h A K
 have g:jh M r:=pj A
 have a1:=h.bw
 have aw:=h.n0
 have N:aR M (cG f M l lo hi)=M.a6 r:=by rw[E];rfl
 have z:0≤df f r∧(f≠5→df f r=0)∧(f=5→df f r=l):=by
  unfold df;rcases O with rfl|rfl|rfl;·refine⟨?_,fun _=>?_,fun s=>by omega⟩<;>rw[if_neg (by decide)]<;>omega
  ·refine⟨?_,fun _=>?_,fun s=>by omega⟩<;>rw[if_neg (by decide)]<;>omega
  ·refine⟨?_,fun s=>absurd rfl s,fun _=>?_⟩<;>rw[if_pos rfl]<;>omega
 have X:aH f M (cG f M l lo hi)=⟨df f r,M.bg r⟩:=by
  rw[E];unfold aH df;by_cases q:f=5;·rw[if_pos q,if_pos q];exact dW w1
  ·rw[if_neg q,if_neg q];exact dW w1
 have T:(M.a6 r).leads f ⟨df f r,M.bg r⟩ l=true:=by
  refine aY.2 ⟨bm.2 ⟨by omega,by omega,by rw[J];exact aw,by rw[J];exact a1,Y,by rw[J];omega,fun s=>?_,fun q _=>?_⟩,.inr ⟨r,I,am,by omega,?_⟩⟩
  ·rcases s with s|s;·exact z.2.1 s
   ·have j:M.bg r=0:=s;omega
  ·have:=z.2.2 q;show l≤df f r∧df f r≤(M.a6 r).n;rw[J];omega
  ·show df f r≤r.I;by_cases q:f=5;·have:=z.2.2 q;omega
   ·have:=z.2.1 q;omega
 refine⟨by rw[E];exact w1,?_,by rw[N];exact mq h A K⟩
 rw[X,N]
 refine⟨.inr ⟨r,?_,I,rfl⟩,Z _ t W _ a2 I T,cC.2 ⟨T,?_⟩,nJ t h U,nJ t h S⟩
 ·rw[xV t (cC.1 U).1 (cC.1 S).1 O];exact E
 ·exact qu I (av _ t W) (jJ t h (jB g.lo) ab) (jJ t h (jB g.hi) ad)

theorem xI {M:St}(h:M.wf){l:Int}{lo hi:Edge}(J:0≤l)(W:l<M.n)(a1:M.len<M.room)(E:bf M 5 lo (l+1)=true)(K:bf M 5 hi (l+1)=true):gY 5 M l lo hi:=by
 obtain⟨z,T⟩:=cC.1 E;obtain⟨N,Y⟩:=cC.1 K;obtain⟨a3,a4,a5,a6,bb,be,a7,a8⟩:=bm.1 (aY.1 z).1;obtain⟨bb,be,bg,bi,bn,bp,a',bq⟩:=bm.1 (aY.1 N).1;have t:¬(l<0∨M.n≤l):=by omega
 have O:¬(M.leads 5 lo (l+1)=false∨M.leads 5 hi (l+1)=false):=by rw[z,N];simp
 by_cases I:lo=hi
 ·subst I;have A:=nI E J (show l≤l+1 by omega);refine kL h (by rw[iS];unfold bo;rw[if_neg t,if_neg O,if_pos rfl]) ?_ A E K
  have a2:lo.to=0∨l<lo.tag:=by
   by_cases s:lo.to=0;·exact .inl s
   ·have:=a8 rfl s;right;omega
  unfold af;rw[if_neg t,if_neg (by rw[(cC.1 A).1];simp),if_pos ⟨rfl,a2⟩]
 ·by_cases q:hi.to=0∧lo.tag=l+1
  ·have s:lo.to≠0:=fun s=>by have:=a7 (.inr s);omega
   have ad:hi=⟨0,0⟩:=by
    have:=a' (.inr q.1);cases hi;simp at this q;rw[this,q.1]
   have aw:lo=⟨l+1,lo.to⟩:=by rw[←q.2]
   have L:M.leads 5 ⟨l,lo.to⟩ l=true:=by
    refine aY.2 ⟨bm.2 ⟨a3,a4,a5,a6,J,by omega,fun j=>?_,fun _ _=>⟨by show l≤l;omega,by show l≤M.n;omega⟩⟩,?_⟩
    ·rcases j with j|j;·exact absurd rfl j
     ·exact absurd j s
    ·rcases(aY.1 z).2 with a2|⟨r,a3,a4,a5,a6⟩;·exact .inl a2
     ·exact .inr ⟨r,a3,a4,by omega,by show l≤r.I;omega⟩
   refine kL h (e:=⟨l,lo.to⟩) (by rw[iS];unfold bo;rw[if_neg t,if_neg O,if_neg I,if_pos q]) ?_ (cC.2 ⟨L,T⟩) E K
   have U:aI 5 l ⟨l,lo.to⟩=(lo,hi,0):=by
    rw[ad];show(if(5:Int)=1∨(5:Int)=3 then _ else if(5:Int)=5 then((⟨l+1,lo.to⟩,⟨0,0⟩,0):Edge×Edge×Int)else _)=_;rw[if_neg (by decide),if_pos rfl,←aw]
   unfold af
   rw[if_neg t,if_neg (by rw[L];simp),if_neg (by
    rintro⟨_,j|j⟩;·exact s j
    ·have X:l<l:=j
     omega)]
   show(match look M.cs lo.to with|none=>Sum.inl (aI 5 l ⟨l,lo.to⟩)|some r=>_)=_;cases am:look M.cs lo.to with
   |none=>simp only[];rw[U]
   |some r=>
    obtain⟨s,ad,aw⟩:=dD z am;simp only[];rw[if_pos (by omega),U]
  ·have ab:=iT (f:=5) J W z N (by omega) (fun _ _=>I);refine jG h (.inr (.inr rfl)) J W a1 (r:=⟨5,l,l,lo,hi⟩) (by rw[iS];unfold bo;rw[if_neg t,if_neg O,if_neg I,if_neg q]) ab rfl rfl ?_ ?_ T Y E K
   ·intro S Z s id hid av L;left;unfold af
    rw[if_neg (by rw[Z.n];exact t),if_neg (by rw[L];simp),if_neg (by
     rintro⟨_,j|j⟩
     ·have X:id=0:=j;omega
     ·have X:l<l:=j
      omega)]
    show(match look S.cs id with|none=>_|some r=>_)=_;rw[av];show(if l<l then _ else if((5:Int)=3∨(5:Int)=4)∧l≠l then _ else _)=_;rw[if_neg (by omega),if_neg (by omega)]
   ·intro S _ _;unfold aV;rw[if_pos rfl];show(decide (hi.to=0)&&decide (lo.tag=l+1))=false;cases A:(decide (hi.to=0)&&decide (lo.tag=l+1))with
    |false=>rfl
    |true=>
     rw[Bool.and_eq_true,decide_eq_true_eq,decide_eq_true_eq]at A;exact absurd A q

theorem xG {M:St}(h:M.wf){l:Int}{lo hi:Edge}(E:0≤l)(O:l<M.n)(av:M.len<M.room)(I:bf M 3 lo (l+1)=true)(K:bf M 3 hi (l+1)=true):gY 3 M l lo hi:=by
 obtain⟨t,L⟩:=cC.1 I;obtain⟨Z,ab⟩:=cC.1 K;obtain⟨a',bb,be,bg,bi,bn,a8,bp⟩:=bm.1 (aY.1 t).1;have A:¬(l<0∨M.n≤l):=by omega
 have X:¬(M.leads 3 lo (l+1)=false∨M.leads 3 hi (l+1)=false):=by rw[t,Z];simp
 have Y:∀e:Edge,¬((3:Int)=5∧(e.to=0∨l<e.tag)):=fun e=>by omega
 by_cases J:lo=hi
 ·subst J;have z:=nI I E (show l≤l+1 by omega);refine kL h (by rw[iQ];unfold al aW;rw[if_neg A,if_neg X,if_pos rfl]) ?_ z I K;have ad:aI 3 l lo=(lo,lo,0):=by simp[aI]
  unfold af;rw[if_neg A,if_neg (by rw[(cC.1 z).1];simp),if_neg (Y lo)];cases a4:look M.cs lo.to with
  |none=>simp only[];rw[ad]
  |some r=>
   obtain⟨am,a2,a3⟩:=dD t a4;simp only[];rw[if_pos (by omega),ad]
 ·by_cases N:∃x,look M.cs lo.to=some x∧x.I=l+1∧x.hi=hi
  ·obtain⟨x,j,a1,a6⟩:=N;subst a6;obtain⟨am,a2,a3⟩:=dD t j;have g:=h.b8 j;have ad:=g.tb;obtain⟨a7,ad⟩:=kU L j;have S:=kj h j am (.inl rfl) E a1;refine jG h (.inl rfl) E O av (r:=⟨3,l,x.J,x.lo,x.hi⟩) (by rw[iQ];unfold al aW;rw[if_neg A,if_neg X,if_neg J,j];show(if x.I=l+1 then(if x.hi=x.hi then _ else _)else _)=_;rw[if_pos a1,if_pos rfl]) S rfl rfl ?_ ?_ a7 ab I K
   ·intro s q W id hid T U;right;refine⟨x,?_,q.sub _ _ j,a8 (.inl (by decide)),by rw[if_neg (by decide)]⟩;unfold af;rw[if_neg (by rw[q.n];exact A),if_neg (by rw[U];simp),if_neg (Y _)];show(match look s.cs id with|none=>_|some r=>_)=_;rw[T];show(if l<l then _ else if((3:Int)=3∨(3:Int)=4)∧x.J≠l then Sum.inr (⟨3,l+1,x.J,x.lo,x.hi⟩:Rec)else _)=_;rw[if_neg (by omega),if_pos ⟨.inl rfl,by omega⟩];congr 1
    cases x;simp_all
   ·intro s q _;have aw:=L lo.to (Reaches.root (by simp) (by rw[j];simp));rw[j]at aw;have W:aV s 3 x=false:=(jX q h j).trans aw;exact W
  ·have S:=iT (f:=3) E O t Z (by omega) (fun _ _=>J)
   have a5:cG 3 M l lo hi=.inr ⟨3,l,l,lo,hi⟩:=by
    rw[iQ];unfold al aW;rw[if_neg A,if_neg X,if_neg J];cases j:look M.cs lo.to with
    |none=>rfl
    |some x=>
     simp only[];by_cases J:x.I=l+1;·rw[if_pos J,if_neg (fun X=>N ⟨x,j,J,X⟩)]
     ·rw[if_neg J]
   refine jG h (.inl rfl) E O av a5 S rfl rfl ?_ ?_ L ab I K
   ·intro s q W id hid T U;left;unfold af;rw[if_neg (by rw[q.n];exact A),if_neg (by rw[U];simp),if_neg (Y _)];show(match look s.cs id with|none=>_|some r=>_)=_;rw[T];show(if l<l then _ else if((3:Int)=3∨(3:Int)=4)∧l≠l then _ else _)=_;rw[if_neg (by omega),if_neg (by omega)]
   ·intro s q _;unfold aV;rw[if_neg (by decide)];show(match look s.cs lo.to with|none=>false|some y=>_)=false;rw[q.c8 t];cases j:look M.cs lo.to with
    |none=>rfl
    |some x=>
     show(decide (x.I=l+1)&&(if(3:Int)=4 then decide (lo=hi)else decide (x.hi=hi)))=false;rw[if_neg (by decide)];cases z:(decide (x.I=l+1)&&decide (x.hi=hi))with
     |false=>rfl
     |true=>
      rw[Bool.and_eq_true,decide_eq_true_eq,decide_eq_true_eq]at z;exact absurd ⟨x,j,z.1,z.2⟩ N

theorem xH {M:St}(h:M.wf){l:Int}{lo hi:Edge}(I:0≤l)(S:l<M.n)(am:M.len<M.room)(J:bf M 4 lo (l+1)=true)(K:bf M 4 hi (l+1)=true):gY 4 M l lo hi:=by
 obtain⟨t,L⟩:=cC.1 J;obtain⟨N,a1⟩:=cC.1 K;obtain⟨be,bg,bi,bn,bp,bq,a',br⟩:=bm.1 (aY.1 t).1;obtain⟨be,bg,bi,bn,bp,bq,bb,br⟩:=bm.1 (aY.1 N).1;have E:¬(l<0∨M.n≤l):=by omega
 have Y:¬(M.leads 4 lo (l+1)=false∨M.leads 4 hi (l+1)=false):=by rw[t,N];simp
 have Z:∀e:Edge,¬((4:Int)=5∧(e.to=0∨l<e.tag)):=fun e=>by omega
 by_cases z:hi.to=0
 ·have a4:hi=⟨0,0⟩:=by
   have:=bb (.inl (by decide));cases hi;simp at this z;rw[this,z]
  have A:=nI J I (show l≤l+1 by omega);refine kL h (by rw[iR];unfold al aZ;rw[if_neg E,if_neg Y,if_pos z]) ?_ A J K;have ab:aI 4 l lo=(lo,hi,0):=by rw[a4];simp[aI]
  unfold af;rw[if_neg E,if_neg (by rw[(cC.1 A).1];simp),if_neg (Z lo)];cases a5:look M.cs lo.to with
  |none=>simp only[];rw[ab]
  |some r=>
   obtain⟨ad,a2,a3⟩:=dD t a5;simp only[];rw[if_pos (by omega),ab]
 ·by_cases O:lo=hi∧∃x,look M.cs lo.to=some x∧x.I=l+1
  ·obtain⟨rfl,x,j,aw⟩:=O;obtain⟨ad,a2,a3⟩:=dD t j;have g:=h.b8 j;have ab:=g.tb;obtain⟨a7,a8⟩:=kU L j;have T:=kj h j ad (.inr rfl) I aw;refine jG h (.inr (.inl rfl)) I S am (r:=⟨4,l,x.J,x.lo,x.hi⟩) (by rw[iR];unfold al aZ;rw[if_neg E,if_neg Y,if_neg z,j];show(if lo=lo then(if x.I=l+1 then _ else _)else _)=_;rw[if_pos rfl,if_pos aw]) T rfl rfl ?_ ?_ a7 a8 J K
   ·intro s q X id hid U W;right;refine⟨x,?_,q.sub _ _ j,a' (.inl (by decide)),by rw[if_pos rfl]⟩;unfold af;rw[if_neg (by rw[q.n];exact E),if_neg (by rw[W];simp),if_neg (Z _)];show(match look s.cs id with|none=>_|some r=>_)=_;rw[U];show(if l<l then _ else if((4:Int)=3∨(4:Int)=4)∧x.J≠l then Sum.inr (⟨4,l+1,x.J,x.lo,x.hi⟩:Rec)else _)=_;rw[if_neg (by omega),if_pos ⟨.inr rfl,by omega⟩];congr 1
    cases x;simp_all
   ·intro s q _;have av:=L lo.to (Reaches.root (by simp) (by rw[j];simp));rw[j]at av;have X:aV s 4 x=false:=(jX q h j).trans av;exact X
  ·have T:=iT (f:=4) I S t N (fun _=>z) (by omega)
   have a6:cG 4 M l lo hi=.inr ⟨4,l,l,lo,hi⟩:=by
    rw[iR];unfold al aZ;rw[if_neg E,if_neg Y,if_neg z];cases j:look M.cs lo.to with
    |none=>rfl
    |some x=>
     simp only[];by_cases z:lo=hi;·rw[if_pos z,if_neg (fun N=>O ⟨z,x,j,N⟩)]
     ·rw[if_neg z]
   refine jG h (.inr (.inl rfl)) I S am a6 T rfl rfl ?_ ?_ L a1 J K
   ·intro s q X id hid U W;left;unfold af;rw[if_neg (by rw[q.n];exact E),if_neg (by rw[W];simp),if_neg (Z _)];show(match look s.cs id with|none=>_|some r=>_)=_;rw[U];show(if l<l then _ else if((4:Int)=3∨(4:Int)=4)∧l≠l then _ else _)=_;rw[if_neg (by omega),if_neg (by omega)]
   ·intro s q _;unfold aV;rw[if_neg (by decide)];show(match look s.cs lo.to with|none=>false|some y=>_)=false;rw[q.c8 t];cases j:look M.cs lo.to with
    |none=>rfl
    |some x=>
     show(decide (x.I=l+1)&&(if(4:Int)=4 then decide (lo=hi)else decide (x.hi=hi)))=false;rw[if_pos rfl];cases A:(decide (x.I=l+1)&&decide (lo=hi))with
     |false=>rfl
     |true=>
      rw[Bool.and_eq_true,decide_eq_true_eq,decide_eq_true_eq]at A;exact absurd ⟨A.2,x,j,A.1⟩ O

open Go.RowKit

theorem rj (n:Nat)(s:n≤20)(w:World):Calls Tryz.prog 29 #[.int .i64 (n:Int)] w fun e w'=>e=.returned (.int .i64 ((2 ^ n:Nat):Int))∧w=w':=by
 go_enter Tryz.func29,Tryz.ntmps29
 go_wp2
 go_loopg [3,4] n (fun gk s A wr=>∃d:Nat,d+gk=n∧A=.int .i64 (d:Int)∧s=.int .i64 ((2 ^ d:Nat):Int)∧w=wr)
 case atStart=>exact⟨0,by omega,rfl,rfl,rfl⟩
 case round=>
  obtain⟨d,E,rfl,rfl,rfl⟩:=hrel;by_cases s:d<n
  ·have q:2 ^ d≤2 ^ 20:=Nat.pow_le_pow_right (by decide) (by omega);have z:(2:Nat) ^ 20=1048576:=rfl;obtain⟨p,j⟩:∃p,p=2 ^ d:=⟨_,rfl⟩;have s:2 ^ (d+1)=2*p:=(by rw[j,Nat.pow_succ];omega);rw[←j]at q ⊢;rw[z]at q;have q:=Lib.hid j;have t:=Lib.hid s;clear j s;go_wp2
   go_roundg (gk-1)
   case rel=>exact⟨d+1,by omega,by simp,by rw[t.out];push_cast;congr 1,rfl⟩
   case measure=>omega
  ·have e:d=n:=(by omega);subst e;go_wp2
   go_ret
   exact⟨rfl,rfl⟩

theorem tH (n:Nat)(J:n≤20)(a:Int)(T:0≤a)(U:a≤18446744073709551615)(w:World) :
  Calls Tryz.prog 25 #[.int .i64 (n:Int),.int .u64 a] w fun e w'=>∃j,j.length=2 ^ n∧e=.returned (.slice (some ⟨w.heap.size,0,none⟩) (2 ^ n) (2 ^ n))∧bu w' w.heap.size j∧aa w w':=by
 have A:=Lib.hid (rj n J w)
 have E:2 ^ n≤2 ^ 20:=Nat.pow_le_pow_right (by decide) J
 have S:(2:Nat) ^ 20=1048576:=rfl
 obtain⟨p,L⟩:∃p,p=2 ^ n:=⟨_,rfl⟩
 rw[←L]at E A ⊢
 rw[S]at E
 clear L
 obtain⟨X,W,Y,Z,ab⟩:=info_parts (show(Tryz.prog.info? 4).map (fun i=>(i.zero,i.size,i.bytes))=some (some (.bool false),1,1) by kernel_rfl)
 go_enter Tryz.func25,Tryz.ntmps25
 go_wp2_with (first
  |(go_at_call 29;refine A.out.mono ?_;rintro e w' ⟨rfl,rfl⟩)
  |(at_make;refine wpList_make_full _ rfl _ _ 62 rfl w.heap.size 4 X (.bool false) 1 Tryz.underlying62 W Y Z .i64 .i64 (p:Int) (p:Int) p rfl rfl rfl rfl (by rw[ab];omega) (by unfold maxLen;omega) (Nat.le_refl _) ?_;intro w1 K q)
  |fail)
 have N:=Lib.hid (lZ K)
 have O:=Lib.hid (show aa w w1 from⟨q.os,q.tape,q.output,q.size,fun i hi=>q.block i hi (by simp)⟩)
 clear K q
 go_loopg [1,6] p (fun gk q A wr=>∃(d:Nat) (b:Int) (j:List Bool),d+gk=p∧A=.int .i64 (d:Int)∧q=.int .u64 b∧0≤b∧b≤18446744073709551615∧j.length=p∧bu wr w.heap.size j∧aa w wr)
 case atStart=>exact⟨0,a,_,by omega,rfl,rfl,T,U,by simp,N.out,O.out⟩
 case round=>
  obtain⟨d,b,j,ad,rfl,rfl,A,E,I,q,t⟩:=hrel;have s:=Lib.hid q;have z:=Lib.hid t;clear q t;by_cases q:d<p
  ·have q:=s.out.cell (i:=d) (b:=j[d]'(by omega)) (List.getElem?_eq_getElem _);have q:=s.out.frozen d;go_wp2
   go_roundg (gk-1)
   case rel=>exact⟨d+1,b / 2,j.set d _,by omega,by simp,rfl,by omega,by omega,by simp[I],s.out.set d _,z.out.new ((ae.refl (fun k=>k=w.heap.size) wr).setCell (Or.inl rfl) _) (fun k t=>by omega)⟩
   case measure=>omega
  ·go_wp2
   go_ret
   exact⟨j,I,rfl,s.out,z.out⟩

def cc (f:Int)(b:Bool)(l:Int):Edge:=if b then(if f=5 then⟨l,1⟩else⟨0,1⟩)else⟨0,0⟩

theorem pd {f:Int}{b:Bool}{l:Int}(j:0≤l)(q:l≤16):(cc f b l).ok:=by
 unfold cc;split
 ·split;·exact⟨⟨by show 0≤l;omega,by show l≤255;omega⟩,⟨by show(0:Int)≤1;omega,by show(1:Int)≤4294967295;omega⟩⟩
  ·exact⟨by decide,by decide⟩
 ·exact⟨by decide,by decide⟩

theorem vh {M:St}(h:M.wf){f:Int}{b:Bool}(E:f=3∨f=4∨f=5):bf M f (cc f b M.n) M.n=true:=by
 have z:=h.n0;have A:=h.bw
 have t:(cc f b M.n).to<2:=by
  unfold cc;split
  ·split;·show(1:Int)<2;omega
   ·show(1:Int)<2;omega
  ·show(0:Int)<2;omega
 refine cC.2 ⟨aY.2 ⟨bm.2 ⟨by omega,by omega,z,A,z,by omega,fun j=>?_,fun q s=>?_⟩,.inl t⟩,mY (dR t)⟩
 ·unfold cc at j ⊢;split at j
  ·split at j
   ·rename_i q;rcases j with j|j;·exact absurd q j
    ·have t:(1:Int)=0:=j;omega
   ·rw[if_pos (by assumption),if_neg (by assumption)]
  ·rw[if_neg (by assumption)]
 ·unfold cc at s ⊢;split at s
  ·rw[if_pos (by assumption),if_pos q];exact⟨by show M.n≤M.n;omega,by show M.n≤M.n;omega⟩
  ·exact absurd rfl s

theorem dg.trans {a b c:St}{q k m:Int}(h:dg a b q)(j:dg b c k)(s:q+k≤m):dg a c m:=
 ⟨h.ext.trans j.ext,j.wf,by have:=h.len;have:=j.len;omega,j.room.trans h.room⟩

theorem mQ {f:Int}{M:St}{l:Int}{lo hi:Edge}(h:M.wf)(q:M.cs.length≤1048576)(j:lo.ok)(A:hi.ok)(s:0≤l)(t:l≤255)(z:f=3∨f=4∨f=5):(aH f M (cG f M l lo hi)).ok:=by
 rcases z with rfl|rfl|rfl
 ·rw[iQ];show(dA M _).ok;unfold al aW;repeat' split
  all_goals first|exact dQ|exact j|exact ie h q 0 (by omega) _
 ·rw[iR];show(dA M _).ok;unfold al aZ;repeat' split
  all_goals first|exact dQ|exact j|exact ie h q 0 (by omega) _
 ·rw[iS];show(iJ M _).ok;unfold bo;repeat' split
  all_goals first|exact dQ|exact j|exact⟨⟨s,t⟩,j.2⟩|exact ie h q l ⟨s,t⟩ _

structure bF (F:Nat→Prop)(W w':World)(sb:Nat)(M:St):Prop where
 ex:∃F',ag F' w' sb M∧∀j,F' j→F j∨W.heap.size≤j
 av:ae F W w'

theorem bF.refl {F:Nat→Prop}{j:World}{q:Nat}{M:St}(h:ag F j q M):bF F j j q M:=⟨⟨F,h,fun _ j=>.inl j⟩,ae.refl _ _⟩

theorem bF.U {F:Nat→Prop}{j w1 t:World}{s:Nat}{M:St}(h:bF F j w1 s M)(q:aa w1 t):bF F j t s M:=by
 obtain⟨⟨F',j,s⟩,t⟩:=h;exact⟨⟨F',j.U q,s⟩,t.a' (aa.av q _)⟩

theorem bF.call {F:Nat→Prop}{z w1 J:World}{t:Nat}{M E:St}(h:bF F z w1 t M)(L:∀F',ag F' w1 t M→(∀j,F' j→F j∨z.heap.size≤j)→bF F' w1 J t E):bF F z J t E:=by
 obtain⟨⟨F',K,A⟩,I⟩:=h;obtain⟨⟨t,z,O⟩,E⟩:=L F' K A;have J:=I.size;refine⟨⟨t,z,fun j s=>?_⟩,I.trans (E.mono (fun k N q=>?_))⟩
 ·rcases O j s with s|s;·exact A j s
  ·right;omega
 ·rcases A k q with q|q;·exact .inl q
  ·exact .inr ⟨q,N⟩

theorem bF.after {F:Nat→Prop}{j W0 w1:World}{t:Nat}{M:St}(s:aa j W0)(h:bF F W0 w1 t M):bF F j w1 t M:=by
 obtain⟨⟨F',j,z⟩,A⟩:=h;have t:=s.size;exact⟨⟨F',j,fun I E=>by rcases z I E with q|q;exact .inl q;right;omega⟩,(aa.av s F).a' A⟩

theorem bF.step {F z:Nat→Prop}{t w1 A L:World}{K:Nat}{M:St}(I:∀j,z j→F j∨t.heap.size≤j)(J:ae F t w1)(E:aa w1 A)(h:bF z A L K M):bF F t L K M:=by
 obtain⟨⟨t,z,N⟩,A⟩:=h;have K:=J.size;have K:=E.size;refine⟨⟨t,z,fun j s=>?_⟩,(J.a' (aa.av E F)).trans (A.mono (fun k O q=>?_))⟩
 ·rcases N j s with s|s;·exact I j s
  ·right;omega
 ·rcases I k q with q|q;·exact .inl q
  ·exact .inr ⟨q,O⟩

theorem bF.g' {F q:Nat→Prop}{w j:World}{E:Nat}{M:St}(K:ag q j E M)(sub:∀z,q z→F z∨w.heap.size≤z)(u:ae F w j){b:Nat}(I:¬q b)(A:w.heap.size≤b)(s t:Value) :
  bF F w ((j.setCell ⟨b,0,none⟩ s).setCell ⟨b,1,none⟩ t) E M:=by
 have J:ae (fun k=>k=b) j ((j.setCell ⟨b,0,none⟩ s).setCell ⟨b,1,none⟩ t):=((ae.refl (fun k=>k=b) j).setCell (p:=⟨b,0,none⟩) (Or.inl rfl) s).setCell (p:=⟨b,1,none⟩) (Or.inl rfl) t
 exact⟨⟨q,K.a5 J (fun k j e=>I (e ▸ j)),sub⟩,(u.setCell (p:=⟨b,0,none⟩) (Or.inr A) s).setCell (p:=⟨b,1,none⟩) (Or.inr A) t⟩

theorem bF.of {F:Nat→Prop}{q w':World}{s:Nat}{M:St}(t:ae F q w')(hS:ag (au F q w') w' s M):bF F q w' s M:=
 ⟨⟨_,hS,fun q j=>by rcases j with j|j;exact .inl j;exact .inr j.1⟩,t⟩

theorem bF.a2 {F:Nat→Prop}{j w':World}{z:Nat}{M:St}(h:bF F j w' z M){b o:Nat}(t:b<j.heap.size)(q:¬F b)(s:j.frozen? ⟨b,o,none⟩=false):w'.frozen? ⟨b,o,none⟩=false:=
 (World.frozen?_of_block (a:=⟨b,o,none⟩) (h.av.block b t q)).trans s

theorem bF.cell {F:Nat→Prop}{j w':World}{t:Nat}{M:St}(h:bF F j w' t M){b o:Nat}{v:Value}(q:¬F b)(s:j.cell? ⟨b,o,none⟩=some v):w'.cell? ⟨b,o,none⟩=some v:=h.av.cellAt q s

end Go.Proofs.YtafkamlhimkbmaaGreat
