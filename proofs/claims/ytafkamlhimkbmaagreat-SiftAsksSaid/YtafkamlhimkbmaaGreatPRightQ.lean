/-
  Plainly: what Make makes of two right edges is right, and View of it tells the two again: any form with chains or tags.
-/
import Derived.Test.YtafkamlhimkbmaaGreatPRightA
import Derived.Lib.SlicesDelete
import Derived.Shelf.RegionOpenPlain
import Derived.Sort.EncStr
namespace Go.Proofs.YtafkamlhimkbmaaGreat
set_option maxRecDepth 1000000
set_option maxHeartbeats 8000000
set_option linter.unusedSimpArgs false
set_option linter.unusedVariables false
structure aD (M M':St):Prop where
 n:M'.n=M.n
 sub:∀id r,look M.cs id=some r→look M'.cs id=some r
theorem aD.refl (M:St):aD M M:=⟨rfl,fun _ _ h=>h⟩
theorem aD.trans {a b c:St}(h:aD a b)(k:aD b c):aD a c:=⟨k.n.trans h.n,fun id r j=>k.sub id r (h.sub id r j)⟩
theorem fh {cs:List (Option Rec)}{id:Int}(h:id<2):look cs id=none:=by unfold look;rw[ah h]
theorem aD.c7 {M M':St}(h:aD M M'){f:Int}{e:Edge}{l:Int}(j:M.leads f e l=true):look M'.cs e.to=look M.cs e.to:=by
 rcases(jC j).2 with j|⟨r,q,_⟩;·rw[fh j,fh j]
 ·rw[q,h.sub _ _ q]
theorem aD.leads {M M':St}(h:aD M M'){f:Int}{e:Edge}{l:Int}(j:M.leads f e l=true):M'.leads f e l=true:=oL h.n h.sub j
def fZ (M:St)(f a:Int):Prop:=∀x,Reaches M.cs [a] x→aI M f (aA (look M.cs x))=false
theorem dp {M:St}{f:Int}{e:Edge}{l:Int}:aZ M f e l=true↔(M.leads f e l=true∧fZ M f e.to):=by
 unfold aZ;rw[bT,List.all_eq_true];constructor
 ·rintro⟨j,q⟩;refine⟨j,fun x s=>?_⟩;have:=q x (gR.2 s);simpa using this
 ·rintro⟨j,q⟩;refine⟨j,fun x s=>?_⟩;rw[q x (gR.1 s)];rfl
theorem o4 {M:St}{f a:Int}(h:look M.cs a=none):fZ M f a:=by
 intro x s;have:=s (fun _=>False) (fun e j q=>by rw[cF]at j;subst j;exact q h) (fun _ _ h _=>h.elim);exact this.elim
theorem lP {M M':St}(j:aD M M')(h:M.wf){f id:Int}{r:Rec}(q:look M.cs id=some r):aI M' f r=aI M f r:=by
 unfold aI;split;·rfl
 ·rw[j.c7 (h.b6 q).lo]
theorem ly {M M':St}(q:aD M M')(h:M.wf){f a:Int}(s:a<2∨look M.cs a≠none)(E:fZ M f a):fZ M' f a:=by
 intro x L
 have key:=L (fun y=>Reaches M.cs [a] y) (fun e z I=>by
  rw[cF]at z;subst z;rcases s with s|s;·exact absurd (fh s) I
  ·exact Reaches.root (by simp) s) (fun y r A J=>by
  cases j:look M.cs y with
  |none=>exact absurd j A.some
  |some B=>
   have t:=q.sub _ _ j;rw[J]at t;cases t;have g:=h.b6 j;have c:=Reaches.closed M.cs [a] y r A j;refine⟨fun s=>c.1 ?_,fun s=>c.2 ?_⟩;·rw[q.c7 g.lo]at s;exact s
   ·rw[q.c7 g.hi]at s;exact s)
 cases j:look M.cs x with
 |none=>exact absurd j key.some
 |some B=>
  have s:=E x key;rw[j]at s;rw[q.sub _ _ j];show aI M' f B=false;rw[lP q h j];exact s
theorem sB {M:St}{f a:Int}{r:Rec}(z:look M.cs a=some r)(I:aI M f r=false)(B:fZ M f r.lo.to)(E:fZ M f r.hi.to):fZ M f a:=by
 intro x t
 have key:=t (fun y=>y=a∨Reaches M.cs [r.lo.to] y∨Reaches M.cs [r.hi.to] y) (fun e t _=>by rw[cF]at t;exact .inl t) (fun y A q s=>by
  rcases q with rfl|q|q
  ·rw[z]at s;cases s;exact⟨fun j=>.inr (.inl (Reaches.root (by simp) j)),fun j=>.inr (.inr (Reaches.root (by simp) j))⟩
  ·have c:=Reaches.closed M.cs [r.lo.to] y A q s;exact⟨fun j=>.inr (.inl (c.1 j)),fun j=>.inr (.inl (c.2 j))⟩
  ·have c:=Reaches.closed M.cs [r.hi.to] y A q s
   exact⟨fun j=>.inr (.inr (c.1 j)),fun j=>.inr (.inr (c.2 j))⟩)
 rcases key with rfl|q|q;·rw[z];exact I
 ·exact B x q
 ·exact E x q
theorem mE {M:St}{f a:Int}{r:Rec}(t:fZ M f a)(q:look M.cs a=some r):fZ M f r.lo.to∧fZ M f r.hi.to:=by
 have z:Reaches M.cs [a] a:=Reaches.root (by simp) (by rw[q];simp);have c:=Reaches.closed M.cs [a] a r z q;refine⟨fun x q=>t x (q.below (fun y j s=>?_)),fun x q=>t x (q.below (fun y j s=>?_))⟩;·rw[cF]at j;subst j;exact c.1 s
 ·rw[cF]at j;subst j;exact c.2 s
theorem lj {M:St}{f:Int}{e:Edge}{l:Int}(h:M.leads f e l=true):e.to<2∨look M.cs e.to≠none:=by
 rcases(jC h).2 with j|⟨r,q,_⟩;·exact .inl j
 ·exact .inr (by rw[q];simp)
theorem pk {M M':St}(q:aD M M')(h:M.wf){f:Int}{e:Edge}{l:Int}(t:aZ M f e l=true):aZ M' f e l=true:=by
 obtain⟨j,s⟩:=dp.1 t;exact dp.2 ⟨q.leads j,ly q h (lj j) s⟩
theorem pj {M:St}{f:Int}{e:Edge}{l l':Int}(s:aZ M f e l=true)(j:0≤l')(q:l'≤l):aZ M f e l'=true:=by
 obtain⟨a,b⟩:=dp.1 s;exact dp.2 ⟨mq a j q,b⟩
def du (f:Int)(M:St)(l:Int)(lo hi:Edge):(Edge×Int) ⊕ Rec:=
 if f=5 then bO M l lo hi else if f=3 then az M 3 l lo hi (bk M l lo hi)else az M 4 l lo hi (bm M l lo hi)
def eh (f:Int)(r:Rec):Int:=if f=5 then r.I else 0
structure nc (f:Int)(M:St)(l:Int)(lo hi e:Edge):Prop where
 up:du f M l lo hi=.inl (e,0)∨∃r,du f M l lo hi=.inr r∧look M.cs e.to=some r∧e.tag=eh f r
 eg:aj M f e l=.inl (lo,hi,0)∨∃q,aj M f e l=.inr q∧look M.cs lo.to=some q∧lo.tag=0∧hi=(if f=4 then lo else q.hi)
 right:aZ M f e l=true
 lo:aZ M f lo (l+1)=true
 hi:aZ M f hi (l+1)=true
theorem kj (M:St)(l:Int)(lo hi:Edge):du 3 M l lo hi=az M 3 l lo hi (bk M l lo hi):=rfl
theorem km (M:St)(l:Int)(lo hi:Edge):du 4 M l lo hi=az M 4 l lo hi (bm M l lo hi):=rfl
theorem kn (M:St)(l:Int)(lo hi:Edge):du 5 M l lo hi=bO M l lo hi:=rfl
theorem zN {M M':St}(j:aD M M'){f l:Int}{lo hi:Edge}(q:M.leads f lo (l+1)=true)(s:M.leads f hi (l+1)=true)(t:f=3∨f=4∨f=5):du f M' l lo hi=du f M l lo hi:=by
 have a:=j.leads q;have b:=j.leads s;have c:=j.c7 q;rcases t with rfl|rfl|rfl
 ·rw[kj,kj];unfold az bk;rw[j.n,a,b,q,s,c]
 ·rw[km,km];unfold az bm;rw[j.n,a,b,q,s,c]
 ·rw[kn,kn];unfold bO;rw[j.n,a,b,q,s]
theorem uo {M M':St}(q:aD M M'){f l:Int}{e:Edge}(j:M.leads f e l=true):aj M' f e l=aj M f e l:=by
 unfold aj;rw[q.n,q.leads j,j,q.c7 j]
def aL (f:Int)(M:St)(a:(Edge×Int) ⊕ Rec):Edge:=if f=5 then jU M a else eD M a
theorem ko {M:St}{f l:Int}{lo hi:Edge}(I:0≤l)(J:l<M.n)(q:M.leads f lo (l+1)=true)(s:M.leads f hi (l+1)=true)(A:f=2∨f=4→hi.to≠0)(z:f≠2→f≠4→lo≠hi):M.br ⟨f,l,l,lo,hi⟩=false:=by
 obtain⟨I,J,L,N,_⟩:=bK.1 (a9.1 q).1;have B:=(a9.1 q).1;have E:=(a9.1 s).1;unfold St.br;simp only[Bool.or_eq_false_iff,Bool.not_eq_false'];refine⟨⟨?_,q⟩,s⟩;unfold fT aR fQ
 have t:¬(!(decide (1≤f)&&decide (f≤5))||!(decide (0≤M.n)&&decide (M.n≤16))||decide (l<l)||decide (M.n≤l)||(l != l&&!fN f))=true:=by
  simp only[dS,Bool.not_eq_true',bT,Bool.and_eq_false_iff,decide_eq_false_iff_not,bC,bne_self_eq_false];simp;omega
 rw[ag t,ag (by rw[B,E];simp)];by_cases q:f=2∨f=4
 ·rw[ah (by simpa using q)];simpa using A q
 ·rw[ag (by simpa using q)];have:=z (by omega) (by omega);cases j:(lo.tag==hi.tag&&lo.to==hi.to)with
  |false=>rfl
  |true=>
   simp only[bT,beq_iff_eq]at j;exact absurd (by cases lo;cases hi;simp at j;rw[j.1,j.2]) this
theorem l4 {M:St}{f l:Int}{x:Rec}{id:Int}(h:M.wf)(q:look M.cs id=some x)(I:x.al=f)(L:f=3∨f=4)(J:0≤l)(N:x.I=l+1):M.br ⟨f,l,x.J,x.lo,x.hi⟩=false:=by
 have g:=h.b6 q;have J:=h.bw;have J:=h.n0;have J:=g.tb;have J:=g.bn;have z:=(a9.1 g.lo).1;have A:=(a9.1 g.hi).1;have t:=g.lo;have s:=g.hi;rw[I]at z A t s;unfold St.br;simp only[Bool.or_eq_false_iff,Bool.not_eq_false'];refine⟨⟨?_,t⟩,s⟩;unfold fT aR fQ fN
 have B:¬(!(decide (1≤f)&&decide (f≤5))||!(decide (0≤M.n)&&decide (M.n≤16))||decide (x.J<l)||decide (M.n≤x.J)||(l != x.J&&!(f==3||f==4)))=true:=by
  simp only[dS,Bool.not_eq_true',bT,Bool.and_eq_false_iff,Bool.or_eq_false_iff,decide_eq_false_iff_not,bC,beq_eq_false_iff_ne];omega
 rw[ag B,ag (by rw[z,A];simp)];by_cases E:f=4
 ·rw[ah (by simp[E])];simpa using g.zero (.inr (by omega))
 ·rw[ag (by simp;omega)];have:=g.apart (by omega) (by omega);cases j:(x.lo.tag==x.hi.tag&&x.lo.to==x.hi.to)with
  |false=>rfl
  |true=>
   simp only[bT,beq_iff_eq]at j;exact absurd (by cases q:x.lo;cases s:x.hi;rw[q,s]at j;simp at j;rw[j.1,j.2]) this
theorem ot {M:St}(h:M.wf){r:Rec}(j:M.br r=false)(q:M.len<M.room):aD M (M.a7 r):=⟨(k7 h j q).2.2.2.1,(k7 h j q).2.2.1⟩
structure ei (M M2:St)(k:Int):Prop where
 ext:aD M M2
 wf:M2.wf
 len:M2.len≤M.len+k
 room:M2.room=M.room
theorem ei.refl {M:St}(h:M.wf){k:Int}(j:0≤k):ei M M k:=⟨aD.refl M,h,by omega,rfl⟩
theorem oA {M:St}(h:M.wf){r:Rec}(j:M.br r=false)(q:M.len<M.room):ei M (M.a7 r) 1:=
 ⟨ot h j q,h.g7 r,(qQ M r).2,qS M r⟩
structure jn (f:Int)(M:St)(l:Int)(lo hi:Edge):Prop where
 hx:cV M (du f M l lo hi)=0
 gf:nc f (aX M (du f M l lo hi)) l lo hi (aL f M (du f M l lo hi))
 b8:ei M (aX M (du f M l lo hi)) 1
theorem mx {f:Int}{M:St}{l:Int}{lo hi e:Edge}(h:M.wf)(j:du f M l lo hi=.inl (e,0))(t:aj M f e l=.inl (lo,hi,0))(B:aZ M f e l=true)(A:aZ M f lo (l+1)=true)(z:aZ M f hi (l+1)=true):jn f M l lo hi:=by
 have s:aL f M (du f M l lo hi)=e:=by rw[j];unfold aL;split<;>rfl
 have q:aX M (du f M l lo hi)=M:=by rw[j];rfl
 exact⟨by rw[j];rfl,by rw[s,q];exact⟨.inl j,.inl t,B,A,z⟩,by rw[q];exact ei.refl h (by omega)⟩
theorem lq {f:Int}{M:St}{l:Int}{lo hi:Edge}{r:Rec}(h:M.wf)(O:f=3∨f=4∨f=5)(Y:0≤l)(a1:l<M.n)(J:M.len<M.room)(B:du f M l lo hi=.inr r)(A:M.br r=false)(al:r.al=f)(a3:r.I=l)
  (Z:∀j,aD M j→j.wf→∀id,2≤id→look j.cs id=some r→j.leads f ⟨eh f r,id⟩ l=true →
    aj j f ⟨eh f r,id⟩ l=.inl (lo,hi,0)∨∃L,aj j f ⟨eh f r,id⟩ l=.inr L∧look j.cs lo.to=some L∧lo.tag=0∧hi=(if f=4 then lo else L.hi))
  (am:∀j,aD M j→j.wf→aI j f r=false) (ab:fZ M f r.lo.to) (ad:fZ M f r.hi.to) (U:aZ M f lo (l+1)=true) (S:aZ M f hi (l+1)=true):jn f M l lo hi:=by
 obtain⟨w1,E,j,I,W,a0⟩:=k7 h A J
 have t:=ot h A J
 have g:kO M r:=qX A
 have aw:=h.bw
 have av:=h.n0
 have N:aX M (du f M l lo hi)=M.a7 r:=by rw[B];rfl
 have z:0≤eh f r∧(f≠5→eh f r=0)∧(f=5→eh f r=l):=by
  unfold eh;rcases O with rfl|rfl|rfl;·refine⟨?_,fun _=>?_,fun s=>by omega⟩<;>rw[ag (by decide)]<;>omega
  ·refine⟨?_,fun _=>?_,fun s=>by omega⟩<;>rw[ag (by decide)]<;>omega
  ·refine⟨?_,fun s=>absurd rfl s,fun _=>?_⟩<;>rw[ah rfl]<;>omega
 have X:aL f M (du f M l lo hi)=⟨eh f r,M.bd r⟩:=by
  rw[B];unfold aL eh;by_cases q:f=5;·rw[ah q,ah q];exact fB w1
  ·rw[ag q,ag q];exact fB w1
 have T:(M.a7 r).leads f ⟨eh f r,M.bd r⟩ l=true:=by
  refine a9.2 ⟨bK.2 ⟨by omega,by omega,by rw[I];exact av,by rw[I];exact aw,Y,by rw[I];omega,fun s=>?_,fun q _=>?_⟩,.inr ⟨r,E,al,by omega,?_⟩⟩
  ·rcases s with s|s;·exact z.2.1 s
   ·have j:M.bd r=0:=s;omega
  ·have:=z.2.2 q;show l≤eh f r∧eh f r≤(M.a7 r).n;rw[I];omega
  ·show eh f r≤r.I;by_cases q:f=5;·have:=z.2.2 q;omega
   ·have:=z.2.1 q;omega
 refine⟨by rw[B];exact w1,?_,by rw[N];exact oA h A J⟩
 rw[X,N]
 refine⟨.inr ⟨r,?_,E,rfl⟩,Z _ t W _ a0 E T,dp.2 ⟨T,?_⟩,pk t h U,pk t h S⟩
 ·rw[zN t (dp.1 U).1 (dp.1 S).1 O];exact B
 ·exact sB E (am _ t W) (ly t h (lj g.lo) ab) (ly t h (lj g.hi) ad)
theorem zA {M:St}(h:M.wf){l:Int}{lo hi:Edge}(I:0≤l)(U:l<M.n)(av:M.len<M.room)(B:aZ M 5 lo (l+1)=true)(J:aZ M 5 hi (l+1)=true):jn 5 M l lo hi:=by
 obtain⟨z,a2⟩:=dp.1 B;obtain⟨N,X⟩:=dp.1 J;obtain⟨a0,a1,a3,a4,a8,a',a5,a6⟩:=bK.1 (a9.1 z).1;obtain⟨a8,a',bb,bd,be,bf,a7,bg⟩:=bK.1 (a9.1 N).1;have t:¬(l<0∨M.n≤l):=by omega
 have O:¬(M.leads 5 lo (l+1)=false∨M.leads 5 hi (l+1)=false):=by rw[z,N];simp
 by_cases E:lo=hi
 ·subst E;have A:=pj B I (show l≤l+1 by omega);refine mx h (by rw[kn];unfold bO;rw[ag t,ag O,ah rfl]) ?_ A B J
  have aw:lo.to=0∨l<lo.tag:=by
   by_cases s:lo.to=0;·exact .inl s
   ·have:=a6 rfl s;right;omega
  unfold aj;rw[ag t,ag (by rw[(dp.1 A).1];simp),ah ⟨rfl,aw⟩]
 ·by_cases q:hi.to=0∧lo.tag=l+1
  ·have s:lo.to≠0:=fun s=>by have:=a5 (.inr s);omega
   have ab:hi=⟨0,0⟩:=by
    have:=a7 (.inr q.1);cases hi;simp at this q;rw[this,q.1]
   have am:lo=⟨l+1,lo.to⟩:=by rw[←q.2]
   have L:M.leads 5 ⟨l,lo.to⟩ l=true:=by
    refine a9.2 ⟨bK.2 ⟨a0,a1,a3,a4,I,by omega,fun j=>?_,fun _ _=>⟨by show l≤l;omega,by show l≤M.n;omega⟩⟩,?_⟩
    ·rcases j with j|j;·exact absurd rfl j
     ·exact absurd j s
    ·rcases(a9.1 z).2 with aw|⟨r,a0,a1,a3,a4⟩;·exact .inl aw
     ·exact .inr ⟨r,a0,a1,by omega,by show l≤r.I;omega⟩
   refine mx h (e:=⟨l,lo.to⟩) (by rw[kn];unfold bO;rw[ag t,ag O,ag E,ah q]) ?_ (dp.2 ⟨L,a2⟩) B J
   have T:aN 5 l ⟨l,lo.to⟩=(lo,hi,0):=by
    rw[ab];show(if(5:Int)=1∨(5:Int)=3 then _ else if(5:Int)=5 then((⟨l+1,lo.to⟩,⟨0,0⟩,0):Edge×Edge×Int)else _)=_;rw[ag (by decide),ah rfl,←am]
   unfold aj
   rw[ag t,ag (by rw[L];simp),ag (by
    rintro⟨_,j|j⟩;·exact s j
    ·have W:l<l:=j
     omega)]
   show(match look M.cs lo.to with|none=>Sum.inl (aN 5 l ⟨l,lo.to⟩)|some r=>_)=_;cases ad:look M.cs lo.to with
   |none=>simp only[];rw[T]
   |some r=>
    obtain⟨s,ab,am⟩:=dY z ad;simp only[];rw[ah (by omega),T]
  ·have Z:=ko (f:=5) I U z N (by omega) (fun _ _=>E);refine lq h (.inr (.inr rfl)) I U av (r:=⟨5,l,l,lo,hi⟩) (by rw[kn];unfold bO;rw[ag t,ag O,ag E,ag q]) Z rfl rfl ?_ ?_ a2 X B J
   ·intro S Y s id hid al L;left;unfold aj
    rw[ag (by rw[Y.n];exact t),ag (by rw[L];simp),ag (by
     rintro⟨_,j|j⟩
     ·have W:id=0:=j;omega
     ·have W:l<l:=j
      omega)]
    show(match look S.cs id with|none=>_|some r=>_)=_;rw[al];show(if l<l then _ else if((5:Int)=3∨(5:Int)=4)∧l≠l then _ else _)=_;rw[ag (by omega),ag (by omega)]
   ·intro S _ _;unfold aI;rw[ah rfl];show(decide (hi.to=0)&&decide (lo.tag=l+1))=false;cases A:(decide (hi.to=0)&&decide (lo.tag=l+1))with
    |false=>rfl
    |true=>
     rw[bT,bC,bC]at A;exact absurd A q
theorem zy {M:St}(h:M.wf){l:Int}{lo hi:Edge}(B:0≤l)(N:l<M.n)(al:M.len<M.room)(E:aZ M 3 lo (l+1)=true)(J:aZ M 3 hi (l+1)=true):jn 3 M l lo hi:=by
 obtain⟨t,a2⟩:=dp.1 E;obtain⟨Y,Z⟩:=dp.1 J;obtain⟨a7,a8,a',bb,bd,be,a6,bf⟩:=bK.1 (a9.1 t).1;have A:¬(l<0∨M.n≤l):=by omega
 have W:¬(M.leads 3 lo (l+1)=false∨M.leads 3 hi (l+1)=false):=by rw[t,Y];simp
 have X:∀e:Edge,¬((3:Int)=5∧(e.to=0∨l<e.tag)):=fun e=>by omega
 by_cases I:lo=hi
 ·subst I;have z:=pj E B (show l≤l+1 by omega);refine mx h (by rw[kj];unfold az bk;rw[ag A,ag W,ah rfl]) ?_ z E J;have ab:aN 3 l lo=(lo,lo,0):=by simp[aN]
  unfold aj;rw[ag A,ag (by rw[(dp.1 z).1];simp),ag (X lo)];cases a1:look M.cs lo.to with
  |none=>simp only[];rw[ab]
  |some r=>
   obtain⟨ad,aw,a0⟩:=dY t a1;simp only[];rw[ah (by omega),ab]
 ·by_cases L:∃x,look M.cs lo.to=some x∧x.I=l+1∧x.hi=hi
  ·obtain⟨x,j,av,a4⟩:=L;subst a4;obtain⟨ad,aw,a0⟩:=dY t j;have g:=h.b6 j;have ab:=g.tb;obtain⟨a5,ab⟩:=mE a2 j;have O:=l4 h j ad (.inl rfl) B av;refine lq h (.inl rfl) B N al (r:=⟨3,l,x.J,x.lo,x.hi⟩) (by rw[kj];unfold az bk;rw[ag A,ag W,ag I,j];show(if x.I=l+1 then(if x.hi=x.hi then _ else _)else _)=_;rw[ah av,ah rfl]) O rfl rfl ?_ ?_ a5 Z E J
   ·intro s q U id hid S T;right;refine⟨x,?_,q.sub _ _ j,a6 (.inl (by decide)),by rw[ag (by decide)]⟩;unfold aj;rw[ag (by rw[q.n];exact A),ag (by rw[T];simp),ag (X _)];show(match look s.cs id with|none=>_|some r=>_)=_;rw[S];show(if l<l then _ else if((3:Int)=3∨(3:Int)=4)∧x.J≠l then Sum.inr (⟨3,l+1,x.J,x.lo,x.hi⟩:Rec)else _)=_;rw[ag (by omega),ah ⟨.inl rfl,by omega⟩];congr 1
    cases x;simp_all
   ·intro s q _;have am:=a2 lo.to (Reaches.root (by simp) (by rw[j];simp));rw[j]at am;have U:aI s 3 x=false:=(lP q h j).trans am;exact U
  ·have O:=ko (f:=3) B N t Y (by omega) (fun _ _=>I)
   have a3:du 3 M l lo hi=.inr ⟨3,l,l,lo,hi⟩:=by
    rw[kj];unfold az bk;rw[ag A,ag W,ag I];cases j:look M.cs lo.to with
    |none=>rfl
    |some x=>
     simp only[];by_cases I:x.I=l+1;·rw[ah I,ag (fun W=>L ⟨x,j,I,W⟩)]
     ·rw[ag I]
   refine lq h (.inl rfl) B N al a3 O rfl rfl ?_ ?_ a2 Z E J
   ·intro s q U id hid S T;left;unfold aj;rw[ag (by rw[q.n];exact A),ag (by rw[T];simp),ag (X _)];show(match look s.cs id with|none=>_|some r=>_)=_;rw[S];show(if l<l then _ else if((3:Int)=3∨(3:Int)=4)∧l≠l then _ else _)=_;rw[ag (by omega),ag (by omega)]
   ·intro s q _;unfold aI;rw[ag (by decide)];show(match look s.cs lo.to with|none=>false|some y=>_)=false;rw[q.c7 t];cases j:look M.cs lo.to with
    |none=>rfl
    |some x=>
     show(decide (x.I=l+1)&&(if(3:Int)=4 then decide (lo=hi)else decide (x.hi=hi)))=false;rw[ag (by decide)];cases z:(decide (x.I=l+1)&&decide (x.hi=hi))with
     |false=>rfl
     |true=>
      rw[bT,bC,bC]at z;exact absurd ⟨x,j,z.1,z.2⟩ L
theorem zz {M:St}(h:M.wf){l:Int}{lo hi:Edge}(E:0≤l)(O:l<M.n)(ad:M.len<M.room)(I:aZ M 4 lo (l+1)=true)(J:aZ M 4 hi (l+1)=true):jn 4 M l lo hi:=by
 obtain⟨t,a2⟩:=dp.1 I;obtain⟨L,av⟩:=dp.1 J;obtain⟨a',bb,bd,be,bf,bg,a7,bi⟩:=bK.1 (a9.1 t).1;obtain⟨a',bb,bd,be,bf,bg,a8,bi⟩:=bK.1 (a9.1 L).1;have B:¬(l<0∨M.n≤l):=by omega
 have X:¬(M.leads 4 lo (l+1)=false∨M.leads 4 hi (l+1)=false):=by rw[t,L];simp
 have Y:∀e:Edge,¬((4:Int)=5∧(e.to=0∨l<e.tag)):=fun e=>by omega
 by_cases z:hi.to=0
 ·have a1:hi=⟨0,0⟩:=by
   have:=a8 (.inl (by decide));cases hi;simp at this z;rw[this,z]
  have A:=pj I E (show l≤l+1 by omega);refine mx h (by rw[km];unfold az bm;rw[ag B,ag X,ah z]) ?_ A I J;have Z:aN 4 l lo=(lo,hi,0):=by rw[a1];simp[aN]
  unfold aj;rw[ag B,ag (by rw[(dp.1 A).1];simp),ag (Y lo)];cases a3:look M.cs lo.to with
  |none=>simp only[];rw[Z]
  |some r=>
   obtain⟨ab,aw,a0⟩:=dY t a3;simp only[];rw[ah (by omega),Z]
 ·by_cases N:lo=hi∧∃x,look M.cs lo.to=some x∧x.I=l+1
  ·obtain⟨rfl,x,j,am⟩:=N;obtain⟨ab,aw,a0⟩:=dY t j;have g:=h.b6 j;have Z:=g.tb;obtain⟨a5,a6⟩:=mE a2 j;have S:=l4 h j ab (.inr rfl) E am;refine lq h (.inr (.inl rfl)) E O ad (r:=⟨4,l,x.J,x.lo,x.hi⟩) (by rw[km];unfold az bm;rw[ag B,ag X,ag z,j];show(if lo=lo then(if x.I=l+1 then _ else _)else _)=_;rw[ah rfl,ah am]) S rfl rfl ?_ ?_ a5 a6 I J
   ·intro s q W id hid T U;right;refine⟨x,?_,q.sub _ _ j,a7 (.inl (by decide)),by rw[ah rfl]⟩;unfold aj;rw[ag (by rw[q.n];exact B),ag (by rw[U];simp),ag (Y _)];show(match look s.cs id with|none=>_|some r=>_)=_;rw[T];show(if l<l then _ else if((4:Int)=3∨(4:Int)=4)∧x.J≠l then Sum.inr (⟨4,l+1,x.J,x.lo,x.hi⟩:Rec)else _)=_;rw[ag (by omega),ah ⟨.inr rfl,by omega⟩];congr 1
    cases x;simp_all
   ·intro s q _;have al:=a2 lo.to (Reaches.root (by simp) (by rw[j];simp));rw[j]at al;have W:aI s 4 x=false:=(lP q h j).trans al;exact W
  ·have S:=ko (f:=4) E O t L (fun _=>z) (by omega)
   have a4:du 4 M l lo hi=.inr ⟨4,l,l,lo,hi⟩:=by
    rw[km];unfold az bm;rw[ag B,ag X,ag z];cases j:look M.cs lo.to with
    |none=>rfl
    |some x=>
     simp only[];by_cases z:lo=hi;·rw[ah z,ag (fun L=>N ⟨z,x,j,L⟩)]
     ·rw[ag z]
   refine lq h (.inr (.inl rfl)) E O ad a4 S rfl rfl ?_ ?_ a2 av I J
   ·intro s q W id hid T U;left;unfold aj;rw[ag (by rw[q.n];exact B),ag (by rw[U];simp),ag (Y _)];show(match look s.cs id with|none=>_|some r=>_)=_;rw[T];show(if l<l then _ else if((4:Int)=3∨(4:Int)=4)∧l≠l then _ else _)=_;rw[ag (by omega),ag (by omega)]
   ·intro s q _;unfold aI;rw[ag (by decide)];show(match look s.cs lo.to with|none=>false|some y=>_)=false;rw[q.c7 t];cases j:look M.cs lo.to with
    |none=>rfl
    |some x=>
     show(decide (x.I=l+1)&&(if(4:Int)=4 then decide (lo=hi)else decide (x.hi=hi)))=false;rw[ah rfl];cases A:(decide (x.I=l+1)&&decide (lo=hi))with
     |false=>rfl
     |true=>
      rw[bT,bC,bC]at A;exact absurd ⟨A.2,x,j,A.1⟩ N
open Go.RowKit
theorem mU (n:Nat)(s:n≤20)(w:World):Calls Tryz.prog 29 #[.int .i64 (n:Int)] w fun e w'=>e=.returned (.int .i64 ((2 ^ n:Nat):Int))∧w=w':=by
 go_enter Tryz.func29,Tryz.ntmps29;go_wp2;go_loopg [3,4] n (fun gk s A wr=>∃d:Nat,d+gk=n∧A=.int .i64 (d:Int)∧s=.int .i64 ((2 ^ d:Nat):Int)∧w=wr)
 case atStart=>exact⟨0,by omega,rfl,rfl,rfl⟩
 case round=>
  obtain⟨d,B,rfl,rfl,rfl⟩:=hrel;by_cases s:d<n
  ·have q:2 ^ d≤2 ^ 20:=aW (by decide) (by omega);have z:(2:Nat) ^ 20=1048576:=rfl;obtain⟨p,j⟩:∃p,p=2 ^ d:=⟨_,rfl⟩;have s:2 ^ (d+1)=2*p:=(by rw[j,dd];omega);rw[←j]at q ⊢;rw[z]at q;have q:=aa j;have t:=aa s;clear j s;go_wp2;go_roundg (gk-1)
   case rel=>exact⟨d+1,by omega,by simp,by rw[t.out];push_cast;congr 1,rfl⟩
   case measure=>omega
  ·have e:d=n:=(by omega);subst e;go_wp2;go_ret;exact⟨rfl,rfl⟩
def cY (f:Int)(b:Bool)(l:Int):Edge:=if b then(if f=5 then⟨l,1⟩else⟨0,1⟩)else⟨0,0⟩
theorem qN {f:Int}{b:Bool}{l:Int}(j:0≤l)(q:l≤16):(cY f b l).ok:=by
 unfold cY;split
 ·split;·exact⟨⟨by show 0≤l;omega,by show l≤255;omega⟩,⟨by show(0:Int)≤1;omega,by show(1:Int)≤4294967295;omega⟩⟩
  ·exact⟨by decide,by decide⟩
 ·exact⟨by decide,by decide⟩
theorem xF {M:St}(h:M.wf){f:Int}{b:Bool}(B:f=3∨f=4∨f=5):aZ M f (cY f b M.n) M.n=true:=by
 have z:=h.n0;have A:=h.bw
 have t:(cY f b M.n).to<2:=by
  unfold cY;split
  ·split;·show(1:Int)<2;omega
   ·show(1:Int)<2;omega
  ·show(0:Int)<2;omega
 refine dp.2 ⟨a9.2 ⟨bK.2 ⟨by omega,by omega,z,A,z,by omega,fun j=>?_,fun q s=>?_⟩,.inl t⟩,o4 (fh t)⟩
 ·unfold cY at j ⊢;split at j
  ·split at j
   ·rename_i q;rcases j with j|j;·exact absurd q j
    ·have t:(1:Int)=0:=j;omega
   ·rw[ah (by assumption),ag (by assumption)]
  ·rw[ag (by assumption)]
 ·unfold cY at s ⊢;split at s
  ·rw[ah (by assumption),ah q];exact⟨by show M.n≤M.n;omega,by show M.n≤M.n;omega⟩
  ·exact absurd rfl s
theorem ei.trans {a b c:St}{q k m:Int}(h:ei a b q)(j:ei b c k)(s:q+k≤m):ei a c m:=
 ⟨h.ext.trans j.ext,j.wf,by have:=h.len;have:=j.len;omega,j.room.trans h.room⟩
theorem oW {f:Int}{M:St}{l:Int}{lo hi:Edge}(h:M.wf)(q:M.cs.length≤1048576)(j:lo.ok)(A:hi.ok)(s:0≤l)(t:l≤255)(z:f=3∨f=4∨f=5):(aL f M (du f M l lo hi)).ok:=by
 rcases z with rfl|rfl|rfl
 ·rw[kj];show(eD M _).ok;unfold az bk;repeat' split
  all_goals first|exact ff|exact j|exact jx h q 0 (by omega) _
 ·rw[km];show(eD M _).ok;unfold az bm;repeat' split
  all_goals first|exact ff|exact j|exact jx h q 0 (by omega) _
 ·rw[kn];show(jU M _).ok;unfold bO;repeat' split
  all_goals first|exact ff|exact j|exact⟨⟨s,t⟩,j.2⟩|exact jx h q l ⟨s,t⟩ _
structure bY (F:Nat→Prop)(W w':World)(sb:Nat)(M:St):Prop where
 ex:∃F',ak F' w' sb M∧∀j,F' j→F j∨W.heap.size≤j
 av:af F W w'
theorem bY.refl {F:Nat→Prop}{j:World}{sb:Nat}{M:St}(h:ak F j sb M):bY F j j sb M:=⟨⟨F,h,fun _ j=>.inl j⟩,af.refl _ _⟩
theorem bY.ad {F:Nat→Prop}{j w1 s:World}{sb:Nat}{M:St}(h:bY F j w1 sb M)(q:ae w1 s):bY F j s sb M:=by
 obtain⟨⟨F',j,s⟩,t⟩:=h;exact⟨⟨F',j.ad q,s⟩,t.bg (ae.av q _)⟩
theorem bY.call {F:Nat→Prop}{t w1 E:World}{sb:Nat}{M A:St}(h:bY F t w1 sb M)(J:∀F',ak F' w1 sb M→(∀j,F' j→F j∨t.heap.size≤j)→bY F' w1 E sb A):bY F t E sb A:=by
 obtain⟨⟨F',I,z⟩,B⟩:=h;obtain⟨⟨t,A,N⟩,E⟩:=J F' I z;have I:=B.size;refine⟨⟨t,A,fun j s=>?_⟩,B.trans (E.mono (fun k L q=>?_))⟩
 ·rcases N j s with s|s;·exact z j s
  ·right;omega
 ·rcases z k q with q|q;·exact .inl q
  ·exact .inr ⟨q,L⟩
theorem bY.after {F:Nat→Prop}{j s w1:World}{sb:Nat}{M:St}(t:ae j s)(h:bY F s w1 sb M):bY F j w1 sb M:=by
 obtain⟨⟨F',j,z⟩,A⟩:=h;have s:=t.size;exact⟨⟨F',j,fun E B=>by rcases z E B with q|q;exact .inl q;right;omega⟩,(ae.av t F).bg A⟩
theorem bY.step {F z:Nat→Prop}{t w1 A J:World}{sb:Nat}{M:St}(E:∀j,z j→F j∨t.heap.size≤j)(I:af F t w1)(B:ae w1 A)(h:bY z A J sb M):bY F t J sb M:=by
 obtain⟨⟨t,z,L⟩,A⟩:=h;have J:=I.size;have J:=B.size;refine⟨⟨t,z,fun j s=>?_⟩,(I.bg (ae.av B F)).trans (A.mono (fun k N q=>?_))⟩
 ·rcases L j s with s|s;·exact E j s
  ·right;omega
 ·rcases E k q with q|q;·exact .inl q
  ·exact .inr ⟨q,N⟩
theorem bY.hh {F q:Nat→Prop}{w j:World}{sb:Nat}{M:St}(I:ak q j sb M)(sub:∀z,q z→F z∨w.heap.size≤z)(u:af F w j){b:Nat}(B:¬q b)(A:w.heap.size≤b)(s t:Value) :
  bY F w ((j.setCell ⟨b,0,none⟩ s).setCell ⟨b,1,none⟩ t) sb M:=by
 have E:af (fun k=>k=b) j ((j.setCell ⟨b,0,none⟩ s).setCell ⟨b,1,none⟩ t):=((af.refl (fun k=>k=b) j).setCell (p:=⟨b,0,none⟩) (Or.inl rfl) s).setCell (p:=⟨b,1,none⟩) (Or.inl rfl) t
 exact⟨⟨q,I.a4 E (fun k j e=>B (e ▸ j)),sub⟩,(u.setCell (p:=⟨b,0,none⟩) (Or.inr A) s).setCell (p:=⟨b,1,none⟩) (Or.inr A) t⟩
theorem bY.of {F:Nat→Prop}{q w':World}{sb:Nat}{M:St}(s:af F q w')(hS:ak (aC F q w') w' sb M):bY F q w' sb M:=
 ⟨⟨_,hS,fun q j=>by rcases j with j|j;exact .inl j;exact .inr j.1⟩,s⟩
theorem bY.a3 {F:Nat→Prop}{j w':World}{sb:Nat}{M:St}(h:bY F j w' sb M){b o:Nat}(t:b<j.heap.size)(q:¬F b)(s:j.frozen? ⟨b,o,none⟩=false):w'.frozen? ⟨b,o,none⟩=false:=
 (World.frozen?_of_block (a:=⟨b,o,none⟩) (h.av.block b t q)).trans s
theorem bY.cell {F:Nat→Prop}{j w':World}{sb:Nat}{M:St}(h:bY F j w' sb M){b o:Nat}{v:Value}(q:¬F b)(s:j.cell? ⟨b,o,none⟩=some v):w'.cell? ⟨b,o,none⟩=some v:=h.av.cellAt q s
theorem Bq {F:Nat→Prop}{w:World}{mb:Nat}{M:St}{a0:List (Int×Rec)}(h:aV F w mb M a0)(v:Edge)(l:Int)(ad:v.ok) :
  Calls Tryz.prog 87 #[.pointer (some ⟨mb,0,none⟩),.agg #[.int .u8 v.tag,.int .u32 v.to],.int .i64 l] w fun r w'=>r=.returned (.bool (aZ M 5 v l))∧ae w w':=by
 have b0:=aa h.wf
 have bp:=aa (fun(id:Int) (r:Rec) (br:look M.cs id=some r)=>h.b0 _ ((h.mem id r).2 br))
 have br:=h.wf.bw
 have br:=h.bx
 have bv:=kx h.wf h.bx [v.to]
 have av:=aa h
 have bb:=aa (fun(j:World) (s:ae w j) (id:Int)=>ir (h.ad s) id)
 have B:=fun(j:World) (s:ae w j)=>kA (h.ad s) 5 v l ad
 have bn:=aa (fun(j:World) (s:ae w j) (b:Nat) (cap:Nat) (br:fu j (some ⟨b,0,none⟩) 1 [v])=>mM (h.ad s) (some ⟨b,0,none⟩) 1 cap [v] br (by omega))
 clear h
 rcases cr (M.leads 5 v l)with t|t
 ·rw[t]at B;have U:=aa B;have bg:=aa (kD t);clear B t;go_enter Tryz.func87,Tryz.ntmps87;go_wp2_with (first|(go_at_call 141;refine(U.out _ kp).mono ?_;rintro e w1 ⟨rfl,z⟩)|fail)
  go_ret;exact⟨by rw[bg.out];rfl,kp⟩
 ·rw[t]at B;have U:=aa B;have be:=aa t;clear B t;go_enter Tryz.func87,Tryz.ntmps87;go_wp2_with (first|(go_at_call 141;refine(U.out _ kp).mono ?_;rintro e w1 ⟨rfl,z⟩;have b8:w1.cell? ⟨w.heap.size,0,none⟩=some (.int .u8 v.tag):=z.cell (by simp);have b9:w1.cell? ⟨w.heap.size,1,none⟩=some (.int .u32 v.to):=z.cell (by simp);have bs:ae w w1:=kp)|fail)
  refine(bn.out _ kp _ _ (j9 ad (by simp[go_sem]) (by simp[go_sem]))).mono ?_;rintro e al ⟨b7,rfl,ab,bt⟩;obtain⟨ids,L⟩:∃ids,ids=aU M.cs [v.to]:=⟨_,rfl⟩;have ab:iw al b7 ids:=by rw[L];exact ab
  rw[←L]at bv;obtain⟨a,cap,rfl,t⟩:=ab;have J:=aa L;have bf:=aa t;have S:=aa (show ae w al from kp);clear L t bt z bs b8 b9 ad;go_wp2_with fail;go_loopg [8] ids.length (fun gk t wr=>∃d:Nat,d+gk=ids.length∧t=.int .i64 (d:Int)∧ae al wr∧∀(i:Nat) (id:Int),i<d→ids[i]?=some id→aI M 5 (aA (look M.cs id))=false)
  case atStart=>exact⟨0,by omega,rfl,ae.refl _,fun i id hi=>absurd hi (by omega)⟩
  case round=>
   obtain⟨d,ca,rfl,z,t⟩:=hrel;have A:=aa z;have aw:=aa t;clear z t;by_cases bw:d<ids.length
   ·obtain⟨id,hid⟩:∃id,ids[d]?=some id:=⟨_,ar bw⟩;obtain⟨g,rfl,a5⟩:=bf.out d id hid;have bq:=A.out.cell a5;have am:=aa hid;obtain⟨x,E,Y,t,z⟩:=ky b0.out (d:=d) (id:=id) (es:=[v.to]) (by rw[←J.out];exact hid);have t:=Y.tb;have t:=Y.bn;have O:=bp.out id x E;have tok:0≤x.I:=O.I.1;have t:0≤x.J:=O.J.1;have t:=O.lo.2.2;have t:=aa E;have N:ae w wr:=S.out.trans A.out
    have a7:Hid (aI M 5 (aA (look M.cs id))=false→∀(i:Nat) (t:Int),i<d+1→ids[i]?=some t→aI M 5 (aA (look M.cs t))=false):=aa (fun Z i t hi I=>by
     by_cases hid:i<d;·exact aw.out i t hid I
     ·obtain rfl:i=d:=(by omega);rw[am.out]at I;cases I
      exact Z)
    have bD:Hid (aI M 5 (aA (look M.cs id))=true→aZ M 5 v l=false):=aa (fun Z=>kB (d:=d) (id:=id) (by rw[←J.out];exact am.out) Z);clear hid a5 O;rcases fM av.out id with⟨z,a',D,a3,bx,t,a4⟩|⟨a6,_,_⟩
    case inr=>rw[E]at a6;cases a6
    rw[E]at a';cases a';obtain⟨lb,b1,b5,Z,ab,b6,t,z,B,L,O,U⟩:=(av.out.ad N).et a3
    have bd:Hid (∀j,ae w j→Calls Tryz.prog 88 #[.pointer (some ⟨mb,0,none⟩),.int .u32 id] j fun e w'=>e=.returned (.int .i64 (D:Int))∧j=w'):=
     aa (fun j s=>by have:=bb.out j s id;rw[a4]at this;exact this)
    have a8:aI M 5 (aA (look M.cs id))=(decide (x.hi.to=0)&&decide (x.lo.tag=x.I+1)):=(by rw[E];rfl);have W:=aa a8;clear a8;have bi:=aa N;clear E bx a3 Y N a4;go_upto_region 7 with fail
    go_cut [9] (fun s j=>∃q,s=.pointer (some ⟨q,0,none⟩)∧(j.cell? ⟨q,0,none⟩=some (.int .u8 x.al)∧j.cell? ⟨q,1,none⟩=some (.int .u8 x.I)∧j.cell? ⟨q,2,none⟩=some (.int .u8 x.J)∧j.cell? ⟨q,3,none⟩=some (.int .u8 x.lo.tag)∧j.cell? ⟨q,4,none⟩=some (.int .u32 x.lo.to)∧j.cell? ⟨q,5,none⟩=some (.int .u8 x.hi.tag)∧j.cell? ⟨q,6,none⟩=some (.int .u32 x.hi.to))∧ae wr j)
    case first=>
     have b2:=aB b5;have b3:=aB b6;have b4:=aB bq;dsimp only at b2 b3 b4;have j:wr.heap.size≠mb:=(by omega);have j:wr.heap.size≠lb:=(by omega);have j:wr.heap.size≠g:=(by omega);go_region_held3 (fun w'=>w'.cell? ⟨mb,0,none⟩=some (.slice (some ⟨lb,0,none⟩) a0.length b1)∧w'.cell? ⟨g,d,none⟩=some (.int .u32 id)∧w'.cell? ⟨lb,D*8+1,none⟩=some (.int .u8 x.al)∧w'.cell? ⟨lb,D*8+2,none⟩=some (.int .u8 x.I)∧w'.cell? ⟨lb,D*8+3,none⟩=some (.int .u8 x.J)∧w'.cell? ⟨lb,D*8+4,none⟩=some (.int .u8 x.lo.tag)∧w'.cell? ⟨lb,D*8+5,none⟩=some (.int .u32 x.lo.to)∧w'.cell? ⟨lb,D*8+6,none⟩=some (.int .u8 x.hi.tag)∧w'.cell? ⟨lb,D*8+7,none⟩=some (.int .u32 x.hi.to)) (go_keep) ((first|(go_at_call 88;have N:=bi.out;refine(bd.out _ kp).mono ?_;rintro e w' ⟨rfl,rfl⟩)))
     all_goals(try go_wp2_with fail)
     all_goals go_meet
     all_goals exact⟨_,rfl,⟨by simp[go_sem],by simp[go_sem],by simp[go_sem],by simp[go_sem],by simp[go_sem],by simp[go_sem],by simp[go_sem]⟩,kp⟩
    case rest=>
     obtain⟨q,rfl,⟨s,t,z,B,E,L,N⟩,j⟩:=hcut;have T:=aa j;clear j;by_cases X:x.hi.to=0
     ·by_cases a1:x.lo.tag=x.I+1
      ·go_wp2_with fail;go_ret;exact⟨by rw[bD.out (by rw[W.out];simp[X,a1])];rfl,by have:=S.out;have:=A.out;have:=T.out;(exact kp)⟩
      ·go_wp2_with fail;go_roundg (gk-1)
       case rel=>exact⟨d+1,by omega,by simp,by have:=A.out;have:=T.out;(exact kp),a7.out (by rw[W.out];simp[X,a1])⟩
       case measure=>omega
     ·go_wp2_with fail;go_roundg (gk-1)
      case rel=>exact⟨d+1,by omega,by simp,by have:=A.out;have:=T.out;(exact kp),a7.out (by rw[W.out];simp[X])⟩
      case measure=>omega
   ·go_wp2;go_ret;have j:d=ids.length:=(by omega);refine⟨by rw[kC be.out (fun i id hi I=>aw.out i id (by rw[←J.out]at hi;omega) (by rw[J.out];exact I))];rfl,S.out.trans A.out⟩
theorem xo {F:Nat→Prop}{w:World}{sb:Nat}{M:St}(h:ak F w sb M)(v:Edge)(l:Int)(bf:v.ok) :
  Calls Tryz.prog 152 #[.pointer (some ⟨sb,0,none⟩),.agg #[.int .u8 v.tag,.int .u32 v.to],.int .i64 l] w fun r w'=>r=.returned (.bool (aZ M 4 v l))∧ae w w':=by
 have b4:=aa h.wf
 have bw:=aa (fun(id:Int) (r:Rec) (bx:look M.cs id=some r)=>h.b0 bx)
 have bx:=h.wf.bw
 have bx:=h.bx
 have b1:=kx h.wf h.bx [v.to]
 have a5:=aa (fun(s:World) (A:ae w s) (id:Int) (hid:id≤4294967295)=>gI (h.ad A) id hid)
 have T:=fun(s:World) (A:ae w s)=>dF (h.ad A) 4 v l bf
 have bv:=aa (fun(s:World) (A:ae w s) (b:Nat) (cap:Nat) (bx:fu s (some ⟨b,0,none⟩) 1 [v])=>mL (h.ad A) (some ⟨b,0,none⟩) 1 cap [v] bx (by omega))
 clear h
 rcases cr (M.leads 4 v l)with L|L
 ·rw[L]at T;have a7:=aa T;have bt:=aa (kD L);clear T L;go_enter Tryz.func152,Tryz.ntmps152;go_wp2_with (first|(go_at_call 134;refine(a7.out _ kp).mono ?_;rintro e w1 ⟨rfl,N⟩)|fail)
  go_ret;exact⟨by rw[bt.out];rfl,kp⟩
 ·rw[L]at T;have a7:=aa T;have br:=aa L;clear T L;go_enter Tryz.func152,Tryz.ntmps152;go_wp2_with (first|(go_at_call 134;refine(a7.out _ kp).mono ?_;rintro e w1 ⟨rfl,N⟩;have b8:w1.cell? ⟨w.heap.size,0,none⟩=some (.int .u8 v.tag):=N.cell (by simp);have b9:w1.cell? ⟨w.heap.size,1,none⟩=some (.int .u32 v.to):=N.cell (by simp);have bD:ae w w1:=kp)|fail)
  refine(bv.out _ kp _ _ (j9 bf (by simp[go_sem]) (by simp[go_sem]))).mono ?_;rintro e bg ⟨b7,rfl,be,b0⟩;obtain⟨ids,ab⟩:∃ids,ids=aU M.cs [v.to]:=⟨_,rfl⟩;have be:iw bg b7 ids:=by rw[ab];exact be
  rw[←ab]at b1;obtain⟨a,cap,rfl,L⟩:=be;have Y:=aa ab;have bs:=aa L;have a6:=aa (show ae w bg from kp);clear ab L b0 N bD b8 b9 bf;go_wp2_with fail;go_loopg [23] ids.length (fun gk L wr=>∃d:Nat,d+gk=ids.length∧L=.int .i64 (d:Int)∧ae bg wr∧∀(i:Nat) (id:Int),i<d→ids[i]?=some id→aI M 4 (aA (look M.cs id))=false)
  case atStart=>exact⟨0,by omega,rfl,ae.refl _,fun i id hi=>absurd hi (by omega)⟩
  case round=>
   obtain⟨d,ca,rfl,N,L⟩:=hrel;have J:=aa N;have bn:=aa L;clear N L;by_cases b2:d<ids.length
   ·obtain⟨id,hid⟩:∃id,ids[d]?=some id:=⟨_,ar b2⟩;obtain⟨g,rfl,bp⟩:=bs.out d id hid;have L:=J.out.cell bp;have bi:=aa hid;obtain⟨x,O,a',L,N⟩:=ky b4.out (d:=d) (id:=id) (es:=[v.to]) (by rw[←Y.out];exact hid);have L:=a'.tb;have L:=a'.bn;have al:=bw.out id x O;have tok:0≤x.I:=al.I.1;have L:0≤x.J:=al.J.1;have bq:=al.lo.2.2;have L:=aa O;have X:ae w wr:=a6.out.trans J.out
    have ad:Hid (aI M 4 (aA (look M.cs id))=false→∀(i:Nat) (L:Int),i<d+1→ids[i]?=some L→aI M 4 (aA (look M.cs L))=false):=aa (fun bb i L hi W=>by
     by_cases hid:i<d;·exact bn.out i L hid W
     ·obtain rfl:i=d:=(by omega);rw[bi.out]at W;cases W
      exact bb)
    have b3:Hid (aI M 4 (aA (look M.cs id))=true→aZ M 4 v l=false):=aa (fun bb=>kB (d:=d) (id:=id) (by rw[←Y.out];exact bi.out) bb);clear hid bp al
    have U:Hid (∀s,ae w s→Calls Tryz.prog 78 #[.pointer (some ⟨sb,0,none⟩),.int .u32 id] s fun e w'=>e=.returned (.tuple #[.agg #[.int .u8 x.al,.int .u8 x.I,.int .u8 x.J,.int .u8 x.lo.tag,.int .u32 x.lo.to,.int .u8 x.hi.tag,.int .u32 x.hi.to],.bool true])∧ae s w'):=
     aa (fun s A=>by have:=a5.out s A id (by omega);rw[O]at this;exact this)
    have b5:Hid (look M.cs x.lo.to=none→aI M 4 (aA (look M.cs id))=false):=aa (fun B=>by rw[O];show(match look M.cs x.lo.to with|none=>false|some L=>_)=false;rw[B]);have b6:Hid (∀y,look M.cs x.lo.to=some y→aI M 4 (aA (look M.cs id))=(decide (y.I=x.J+1)&&decide (x.lo=x.hi))):=aa (fun y B=>by rw[O];show(match look M.cs x.lo.to with|none=>false|some L=>_)=_;rw[B];rfl);clear a';cases B:look M.cs x.lo.to with
    |none=>
     have S:Hid (∀s,ae w s→Calls Tryz.prog 78 #[.pointer (some ⟨sb,0,none⟩),.int .u32 x.lo.to] s fun e w'=>e=.returned (.tuple #[.agg #[.int .u8 Rec.zero.al,.int .u8 Rec.zero.I,.int .u8 Rec.zero.J,.int .u8 Rec.zero.lo.tag,.int .u32 Rec.zero.lo.to,.int .u8 Rec.zero.hi.tag,.int .u32 Rec.zero.hi.to],.bool false])∧ae s w'):=
      aa (fun s A=>by have:=a5.out s A x.lo.to bq;rw[B]at this;exact this)
     have z:=aa (b5.out B);clear O B
     (go_wp2_with fail
      refine(U.out _ X).mono ?_
      rintro e q ⟨rfl,Z⟩
      go_wp2_with fail
      refine(S.out _ kp).mono ?_
      rintro e I ⟨rfl,j⟩
      have av:=j.U (a:=⟨q.heap.size,2,none⟩) (v:=.int .u8 x.J)
      have aw:=j.U (a:=⟨q.heap.size,3,none⟩) (v:=.int .u8 x.lo.tag)
      have a0:=j.U (a:=⟨q.heap.size,4,none⟩) (v:=.int .u32 x.lo.to)
      have a1:=j.U (a:=⟨q.heap.size,5,none⟩) (v:=.int .u8 x.hi.tag)
      have a3:=j.U (a:=⟨q.heap.size,6,none⟩) (v:=.int .u32 x.hi.to)
      have E:=j.size
      simp only[ai]at E
      have am:q.heap.size<I.heap.size:=by omega
      go_wp2_with fail)
     go_roundg (gk-1)
     case rel=>exact⟨d+1,by omega,by simp,by have:=J.out;(exact kp),ad.out (by exact z.out)⟩
     case measure=>omega
    |some y=>
     have S:Hid (∀s,ae w s→Calls Tryz.prog 78 #[.pointer (some ⟨sb,0,none⟩),.int .u32 x.lo.to] s fun e w'=>e=.returned (.tuple #[.agg #[.int .u8 y.al,.int .u8 y.I,.int .u8 y.J,.int .u8 y.lo.tag,.int .u32 y.lo.to,.int .u8 y.hi.tag,.int .u32 y.hi.to],.bool true])∧ae s w'):=
      aa (fun s A=>by have:=a5.out s A x.lo.to bq;rw[B]at this;exact this)
     have z:=aa (b6.out y B);clear O B;by_cases a8:y.I=x.J+1
     ·by_cases t:x.lo=x.hi
      ·have bd:=ja x.lo x.hi t;have z:Hid (aI M 4 (aA (look M.cs id))=true):=aa (by rw[z.out];simp[a8,t]);have a4:=aa t;clear t
       (go_wp2_with fail
        refine(U.out _ X).mono ?_
        rintro e q ⟨rfl,Z⟩
        go_wp2_with fail
        refine(S.out _ kp).mono ?_
        rintro e I ⟨rfl,j⟩
        have av:=j.U (a:=⟨q.heap.size,2,none⟩) (v:=.int .u8 x.J)
        have aw:=j.U (a:=⟨q.heap.size,3,none⟩) (v:=.int .u8 x.lo.tag)
        have a0:=j.U (a:=⟨q.heap.size,4,none⟩) (v:=.int .u32 x.lo.to)
        have a1:=j.U (a:=⟨q.heap.size,5,none⟩) (v:=.int .u8 x.hi.tag)
        have a3:=j.U (a:=⟨q.heap.size,6,none⟩) (v:=.int .u32 x.hi.to)
        have E:=j.size
        simp only[ai]at E
        have am:q.heap.size<I.heap.size:=by omega
        go_wp2_with fail)
       go_ret;exact⟨by rw[b3.out (by exact z.out)];rfl,by have:=a6.out;have:=J.out;(exact kp)⟩
      ·have bd:=ij x.lo x.hi t;have z:Hid (aI M 4 (aA (look M.cs id))=false):=aa (by rw[z.out];simp[a8,t]);have a4:=aa t;clear t
       (go_wp2_with fail
        refine(U.out _ X).mono ?_
        rintro e q ⟨rfl,Z⟩
        go_wp2_with fail
        refine(S.out _ kp).mono ?_
        rintro e I ⟨rfl,j⟩
        have av:=j.U (a:=⟨q.heap.size,2,none⟩) (v:=.int .u8 x.J)
        have aw:=j.U (a:=⟨q.heap.size,3,none⟩) (v:=.int .u8 x.lo.tag)
        have a0:=j.U (a:=⟨q.heap.size,4,none⟩) (v:=.int .u32 x.lo.to)
        have a1:=j.U (a:=⟨q.heap.size,5,none⟩) (v:=.int .u8 x.hi.tag)
        have a3:=j.U (a:=⟨q.heap.size,6,none⟩) (v:=.int .u32 x.hi.to)
        have E:=j.size
        simp only[ai]at E
        have am:q.heap.size<I.heap.size:=by omega
        go_wp2_with fail)
       go_roundg (gk-1)
       case rel=>exact⟨d+1,by omega,by simp,by have:=J.out;(exact kp),ad.out (by exact z.out)⟩
       case measure=>omega
     ·have z:Hid (aI M 4 (aA (look M.cs id))=false):=aa (by rw[z.out];simp[a8]);by_cases t:x.lo=x.hi
      ·have bd:=ja x.lo x.hi t;have a4:=aa t;clear t
       (go_wp2_with fail
        refine(U.out _ X).mono ?_
        rintro e q ⟨rfl,Z⟩
        go_wp2_with fail
        refine(S.out _ kp).mono ?_
        rintro e I ⟨rfl,j⟩
        have av:=j.U (a:=⟨q.heap.size,2,none⟩) (v:=.int .u8 x.J)
        have aw:=j.U (a:=⟨q.heap.size,3,none⟩) (v:=.int .u8 x.lo.tag)
        have a0:=j.U (a:=⟨q.heap.size,4,none⟩) (v:=.int .u32 x.lo.to)
        have a1:=j.U (a:=⟨q.heap.size,5,none⟩) (v:=.int .u8 x.hi.tag)
        have a3:=j.U (a:=⟨q.heap.size,6,none⟩) (v:=.int .u32 x.hi.to)
        have E:=j.size
        simp only[ai]at E
        have am:q.heap.size<I.heap.size:=by omega
        go_wp2_with fail)
       go_roundg (gk-1)
       case rel=>exact⟨d+1,by omega,by simp,by have:=J.out;(exact kp),ad.out (by exact z.out)⟩
       case measure=>omega
      ·have bd:=ij x.lo x.hi t;have a4:=aa t;clear t
       (go_wp2_with fail
        refine(U.out _ X).mono ?_
        rintro e q ⟨rfl,Z⟩
        go_wp2_with fail
        refine(S.out _ kp).mono ?_
        rintro e I ⟨rfl,j⟩
        have av:=j.U (a:=⟨q.heap.size,2,none⟩) (v:=.int .u8 x.J)
        have aw:=j.U (a:=⟨q.heap.size,3,none⟩) (v:=.int .u8 x.lo.tag)
        have a0:=j.U (a:=⟨q.heap.size,4,none⟩) (v:=.int .u32 x.lo.to)
        have a1:=j.U (a:=⟨q.heap.size,5,none⟩) (v:=.int .u8 x.hi.tag)
        have a3:=j.U (a:=⟨q.heap.size,6,none⟩) (v:=.int .u32 x.hi.to)
        have E:=j.size
        simp only[ai]at E
        have am:q.heap.size<I.heap.size:=by omega
        go_wp2_with fail)
       go_roundg (gk-1)
       case rel=>exact⟨d+1,by omega,by simp,by have:=J.out;(exact kp),ad.out (by exact z.out)⟩
       case measure=>omega
   ·go_wp2;go_ret;have j:d=ids.length:=(by omega);refine⟨by rw[kC br.out (fun i id hi W=>bn.out i id (by rw[←Y.out]at hi;omega) (by rw[Y.out];exact W))];rfl,a6.out.trans J.out⟩
open Go.RowKit Go.Sort Go.Lib
abbrev eW:Int→Value:=fun x=>Value.int .i64 x
theorem xq (s off cap i j:Nat)(d:Array Int)(w:World)(A:Holds eW w s off d)(a0:d.size≤cap)(a3:cap≤9223372036854775807)(a1:i<j)(Z:j≤d.size) :
  Calls Tryz.prog 104 #[.slice (some ⟨s,off,none⟩) d.size cap,.int .i64 i,.int .i64 j] w fun e w'=>e=.returned (.slice (some ⟨s,off,none⟩) (d.size-(j-i)) cap)∧∃U,w'=putRow eW (Sort.ahead w U) s off (d.toList.take i++d.toList.drop j++List.replicate (j-i) 0).toArray:=by
 obtain⟨al,X,U,ad,a0⟩:=info_parts jB
 have Y:i≤j:=by omega
 -- the cells that are moved to the left
 obtain⟨news,I⟩:∃news,news=(d.toList.drop j).map eW:=⟨_,rfl⟩
 have E:news.length=d.size-j:=by rw[I];simp
 have S:∀q,q<d.size-j→news[q]?=some (eW d[j+q]!):=by
  intro q B;rw[I,dh,List.getElem?_drop,Array.getElem?_toList,getElem!_pos d (j+q) (by omega),Array.getElem?_eq_getElem (by omega)];rfl
 obtain⟨J,U,ab⟩:∃J:Addr,(if cap=j then some (⟨s,off,none⟩:Addr)else some ⟨s,off+j,none⟩)=some J∧Hid (∀q u,news[q]?=some u→w.drew.cell? (J.add q)=some u):=by
  by_cases h:cap=j
  ·refine⟨⟨s,off,none⟩,by simp[h],fun q u z=>?_⟩;have U:news.length=0:=(by rw[E];omega);rw[List.length_eq_zero_iff.1 U]at z;simp at z
  ·refine⟨⟨s,off+j,none⟩,by simp[h],fun q u z=>?_⟩
   have B:q<d.size-j:=by
    have:=(List.getElem?_eq_some_iff.1 z).1;rwa[E]at this
   rw[S q B]at z;rw[Addr.add_lit,show off+j+q=off+(j+q) by omega];exact(A (j+q) (by omega)).1.trans z
 have am:Hid (news.length=(d.size-j)*1):=by rw[Nat.mul_one];exact E
 have av:Hid (∀u∈news,u.oneCell'=true):=by
  intro u z;rw[I]at z;obtain⟨x,_,rfl⟩:=List.mem_map.1 z;rfl
 have aw:Hid (∀q,q<news.length→(w.drew.cell? ⟨s,off+i*1+q,none⟩).isSome=true∧w.drew.frozen? ⟨s,off+i*1+q,none⟩=false):=by
  intro q B;rw[E]at B;rw[Nat.mul_one,Nat.add_assoc];exact⟨by show(w.cell? _).isSome=true;rw[(A (i+q) (by omega)).1];rfl,(A (i+q) (by omega)).2⟩
 -- the world behind the append, behind a name
 obtain⟨t,N⟩:∃t,t=w.drew.setCells s (off+i*1) news:=⟨_,rfl⟩
 have O:t=putRow eW (Sort.ahead w 1) s off (lay d i (d.toList.drop j)):=by
  rw[N,I,Nat.mul_one,←putRow_setCells eW (Sort.ahead w 1) s off _ d i (by simp;omega),putRow_self eW (Sort.ahead w 1) s off d (holds_ahead eW w 1 s off d A)];rfl
 have L:Holds eW t s off (lay d i (d.toList.drop j)):=by rw[O];exact holds_putRow eW _ s off d _ (holds_ahead eW w 1 s off d A) (lay_size _ _ _)
 have z:∀z,(Builtin.clear_ #[22] z #[.slice (some ⟨s,off+(i+(d.size-j)),none⟩) (d.size-(i+(d.size-j))) (cap-(i+(d.size-j)))]).run Tryz.prog t=.ok (.tuple #[]) (t.setCells s (off+(i+(d.size-j))) (List.replicate (d.size-(i+(d.size-j))) (eW 0))):=
  fun z=>Lib.run_clear_slice t _ _ z _ Tryz.underlying22 Tryz.zeroValue3 rfl rfl s (off+(i+(d.size-j))) _ _ (by omega) (fun q B=>by rw[show off+(i+(d.size-j))+q=off+(i+(d.size-j)+q) by omega,(L _ (by rw[lay_size];omega)).1];rfl) (fun q B=>by rw[show off+(i+(d.size-j))+q=off+(i+(d.size-j)+q) by omega];exact(L _ (by rw[lay_size];omega)).2)
 have T:Aside (t=putRow eW (Sort.ahead w 1) s off (lay d i (d.toList.drop j))):=O
 have W:Hid (t=w.drew.setCells s (off+i*1) news):=N
 have q:i≤cap:=by omega
 have q:j≤cap:=by omega
 clear N O L A S I E
 go_enter Tryz.func104,Tryz.ntmps104
 go_wp2_with fail
 go_region_law (refine step_append_room rfl (.tmp 22) (.tmp 25) 22 rfl 3 al 1 Tryz.underlying22 X ad s off i cap (by simp[Act.eval,Act.put]) J (d.size-j) (cap-j) news (by simp[Act.eval,Act.put]) am.out ab.out av.out (by omega) aw.out ?_;rw[←W.out])
 go_wp2
 go_ret
 refine⟨by rw[show d.size-(j-i)=i+(d.size-j) by omega];rfl,1,?_⟩
 rw[←delete_arr d i j 0 Y Z,←putRow_setCells eW _ s off _ _ (i+(d.size-j)) (by rw[lay_size];simp;omega),←T.out,List.map_replicate,show d.size-(i+(d.size-j))=j-i by omega]
def jo (w:World)(g:Nat)(xs:List Int):Prop:=∀(i:Nat) (x:Int),xs[i]?=some x→w.cell? ⟨g,i,none⟩=some (.int .i64 x)∧w.frozen? ⟨g,i,none⟩=false
theorem jo.a4 {G:Nat→Prop}{w w':World}{g:Nat}{xs:List Int}(h:jo w g xs)(q:af G w w')(z:g<w.heap.size)(j:¬G g):jo w' g xs:=fun i x A=>by
 obtain⟨s,t⟩:=h i x A;exact⟨q.cellAt j s,q.frozen z j t⟩
theorem xr (g cap i:Nat)(xs:List Int)(w:World)(h:jo w g xs)(t:g<w.heap.size)(E:xs.length≤cap)(I:cap≤1048576)(hi:i<xs.length) :
  Calls Tryz.prog 104 #[.slice (some ⟨g,0,none⟩) xs.length cap,.int .i64 (i:Int),.int .i64 ((i+1:Nat):Int)] w fun e w'=>e=.returned (.slice (some ⟨g,0,none⟩) (xs.length-1) cap)∧jo w' g (xs.eraseIdx i)∧af (fun j=>j=g) w w':=by
 have s:Holds eW w g 0 xs.toArray:=fun j t=>by
  have I:j<xs.length:=by simpa using t
  rw[dK,getElem!_pos _ j t,List.getElem_toArray];exact h j _ (ar I)
 have:=xq g 0 cap i (i+1) xs.toArray w s (by simpa using E) (by omega) (by omega) (by simp;omega)
 rw[List.size_toArray,show i+1-i=1 by omega]at this
 refine this.mono ?_
 rintro e w' ⟨rfl,A,rfl⟩
 have B:=holds_putRow eW (Sort.ahead w A) g 0 xs.toArray (xs.take i++xs.drop (i+1)++List.replicate 1 0).toArray (holds_ahead eW w A g 0 _ s) (by simp;omega)
 refine⟨rfl,fun j x q=>?_,?_⟩
 ·have s:=(List.getElem?_eq_some_iff.1 q).1;rw[List.length_eraseIdx,ah hi]at s;have z:j<(xs.take i++xs.drop (i+1)++List.replicate 1 0).toArray.size:=by simp;omega
  have:=B j z;rw[dK,getElem!_pos _ j z,List.getElem_toArray]at this;rw[List.eraseIdx_eq_take_drop_succ]at q;have J:(xs.take i++xs.drop (i+1)++List.replicate 1 (0:Int))[j]?=some x:=by rw[iU (by simp;omega)];exact q
  rw[(List.getElem?_eq_some_iff.1 J).2]at this;exact this
 ·refine⟨rfl,rfl,rfl,by rw[size_putRow];exact aE _,fun k q j=>?_⟩;show(w.heap.modify g _)[k]?=w.heap[k]?;rw[Array.getElem?_modify,ag (fun e=>j e.symm)]
end Go.Proofs.YtafkamlhimkbmaaGreat
