/-
  Plainly: what Make makes of two right edges is right, and View of it tells the two again: any form with chains or tags.
-/
import Derived.Test.YtafkamlhimkbmaaGreatPRightA
namespace Go.Proofs.YtafkamlhimkbmaaGreat
set_option maxRecDepth 1000000
set_option maxHeartbeats 8000000
set_option linter.unusedSimpArgs false
set_option linter.unusedVariables false
structure aP (M M':St):Prop where
 n:M'.n=M.n
 sub:∀id r,look M.cs id=some r→look M'.cs id=some r
theorem aP.refl (M:St):aP M M:=⟨rfl,fun _ _ h=>h⟩
theorem aP.trans {a b c:St}(h:aP a b)(k:aP b c):aP a c:=⟨k.n.trans h.n,fun id r s=>k.sub id r (h.sub id r s)⟩
theorem fq {cs:List (Option Rec)}{id:Int}(h:id<2):look cs id=none:=by unfold look;rw[ai h]
theorem aP.ds {M M':St}(h:aP M M'){f:Int}{e:Edge}{l:Int}(s:M.leads f e l=true):look M'.cs e.to=look M.cs e.to:=by
 rcases(iK s).2 with s|⟨r,t,_⟩;·rw[fq s,fq s]
 ·rw[t,h.sub _ _ t]
theorem aP.leads {M M':St}(h:aP M M'){f:Int}{e:Edge}{l:Int}(s:M.leads f e l=true):M'.leads f e l=true:=mc h.n h.sub s
def fu (M:St)(f a:Int):Prop:=∀x,Reaches M.cs [a] x→fh M f (aS (look M.cs x))=false
theorem dd {M:St}{f:Int}{e:Edge}{l:Int}:cW M f e l=true↔(M.leads f e l=true∧fu M f e.to):=by
 unfold cW;rw[cA,List.all_eq_true];constructor
 ·rintro⟨s,t⟩;refine⟨s,fun x u=>?_⟩;have:=t x (fJ.2 u);simpa using this
 ·rintro⟨s,t⟩;refine⟨s,fun x u=>?_⟩;rw[t x (fJ.1 u)];rfl
theorem wJ {M:St}{f a:Int}(h:look M.cs a=none):fu M f a:=by
 intro x t;have:=t (fun _=>False) (fun e he s=>by rw[cZ]at he;subst he;exact s h) (fun _ _ h _=>h.elim);exact this.elim
theorem m7 {M M':St}(s:aP M M')(h:M.wf){f id:Int}{r:Rec}(t:look M.cs id=some r):fh M' f r=fh M f r:=by
 unfold fh;split;·rfl
 ·rw[s.ds (h.b4 t).lo]
theorem mu {M M':St}(t:aP M M')(h:M.wf){f a:Int}(u:a<2∨look M.cs a≠none)(I:fu M f a):fu M' f a:=by
 intro x O
 have key:=O (fun y=>Reaches M.cs [a] y) (fun e he J=>by
  rw[cZ]at he;subst he;rcases u with u|u;·exact absurd (fq u) J
  ·exact Reaches.root (by simp) u) (fun y r D N=>by
  cases s:look M.cs y with
  |none=>exact absurd s D.some
  |some E=>
   have z:=t.sub _ _ s;rw[N]at z;cases z;have g:=h.b4 s;have c:=Reaches.closed M.cs [a] y r D s;refine⟨fun u=>c.1 ?_,fun u=>c.2 ?_⟩;·rw[t.ds g.lo]at u;exact u
   ·rw[t.ds g.hi]at u;exact u)
 cases s:look M.cs x with
 |none=>exact absurd s key.some
 |some E=>
  have u:=I x key;rw[s]at u;rw[t.sub _ _ s];show fh M' f E=false;rw[m7 t h s];exact u
theorem wK {M:St}{f a:Int}{r:Rec}(z:look M.cs a=some r)(J:fh M f r=false)(E:fu M f r.lo.to)(I:fu M f r.hi.to):fu M f a:=by
 intro x N
 have key:=N (fun y=>y=a∨Reaches M.cs [r.lo.to] y∨Reaches M.cs [r.hi.to] y) (fun e he _=>by rw[cZ]at he;exact .inl he) (fun y D t u=>by
  rcases t with rfl|t|t
  ·rw[z]at u;cases u;exact⟨fun s=>.inr (.inl (Reaches.root (by simp) s)),fun s=>.inr (.inr (Reaches.root (by simp) s))⟩
  ·have c:=Reaches.closed M.cs [r.lo.to] y D t u;exact⟨fun s=>.inr (.inl (c.1 s)),fun s=>.inr (.inl (c.2 s))⟩
  ·have c:=Reaches.closed M.cs [r.hi.to] y D t u
   exact⟨fun s=>.inr (.inr (c.1 s)),fun s=>.inr (.inr (c.2 s))⟩)
 rcases key with rfl|t|t;·rw[z];exact J
 ·exact E x t
 ·exact I x t
theorem oX {M:St}{f a:Int}{r:Rec}(z:fu M f a)(t:look M.cs a=some r):fu M f r.lo.to∧fu M f r.hi.to:=by
 have D:Reaches M.cs [a] a:=Reaches.root (by simp) (by rw[t];simp);have c:=Reaches.closed M.cs [a] a r D t;refine⟨fun x t=>z x (t.below (fun y s u=>?_)),fun x t=>z x (t.below (fun y s u=>?_))⟩;·rw[cZ]at s;subst s;exact c.1 u
 ·rw[cZ]at s;subst s;exact c.2 u
theorem me {M:St}{f:Int}{e:Edge}{l:Int}(h:M.leads f e l=true):e.to<2∨look M.cs e.to≠none:=by
 rcases(iK h).2 with s|⟨r,t,_⟩;·exact .inl s
 ·exact .inr (by rw[t];simp)
theorem mE {M M':St}(t:aP M M')(h:M.wf){f:Int}{e:Edge}{l:Int}(z:cW M f e l=true):cW M' f e l=true:=by
 obtain⟨s,u⟩:=dd.1 z;exact dd.2 ⟨t.leads s,mu t h (me s) u⟩
theorem mD {M:St}{f:Int}{e:Edge}{l l':Int}(t:cW M f e l=true)(h0:0≤l')(s:l'≤l):cW M f e l'=true:=by
 obtain⟨a,b⟩:=dd.1 t;exact dd.2 ⟨kx a h0 s,b⟩
def cN (f:Int)(M:St)(l:Int)(lo hi:Edge):(Edge×Int) ⊕ Rec:=
 if f=5 then bR M l lo hi else if f=3 then aC M 3 l lo hi (bk M l lo hi)else aC M 4 l lo hi (bo M l lo hi)
def ek (f:Int)(r:Rec):Int:=if f=5 then r.top else 0
structure lf (f:Int)(M:St)(l:Int)(lo hi e:Edge):Prop where
 up:cN f M l lo hi=.inl (e,0)∨∃r,cN f M l lo hi=.inr r∧look M.cs e.to=some r∧e.tag=ek f r
 e8:ao M f e l=.inl (lo,hi,0)∨∃q,ao M f e l=.inr q∧look M.cs lo.to=some q∧lo.tag=0∧hi=(if f=4 then lo else q.hi)
 right:cW M f e l=true
 lo:cW M f lo (l+1)=true
 hi:cW M f hi (l+1)=true
theorem je (M:St)(l:Int)(lo hi:Edge):cN 3 M l lo hi=aC M 3 l lo hi (bk M l lo hi):=rfl
theorem jf (M:St)(l:Int)(lo hi:Edge):cN 4 M l lo hi=aC M 4 l lo hi (bo M l lo hi):=rfl
theorem jg (M:St)(l:Int)(lo hi:Edge):cN 5 M l lo hi=bR M l lo hi:=rfl
theorem vS {M M':St}(s:aP M M'){f l:Int}{lo hi:Edge}(t:M.leads f lo (l+1)=true)(u:M.leads f hi (l+1)=true)(z:f=3∨f=4∨f=5):cN f M' l lo hi=cN f M l lo hi:=by
 have a:=s.leads t;have b:=s.leads u;have c:=s.ds t;rcases z with rfl|rfl|rfl
 ·rw[je,je];unfold aC bk;rw[s.n,a,b,t,u,c]
 ·rw[jf,jf];unfold aC bo;rw[s.n,a,b,t,u,c]
 ·rw[jg,jg];unfold bR;rw[s.n,a,b,t,u]
theorem Ab {M M':St}(t:aP M M'){f l:Int}{e:Edge}(s:M.leads f e l=true):ao M' f e l=ao M f e l:=by
 unfold ao;rw[t.n,t.leads s,s,t.ds s]
def bS (f:Int)(M:St)(a:(Edge×Int) ⊕ Rec):Edge:=if f=5 then iX M a else dx M a
theorem jk {M:St}{f l:Int}{lo hi:Edge}(h0:0≤l)(J:l<M.n)(s:M.leads f lo (l+1)=true)(t:M.leads f hi (l+1)=true)(D:f=2∨f=4→hi.to≠0)(z:f≠2→f≠4→lo≠hi):M.b2 ⟨f,l,l,lo,hi⟩=false:=by
 obtain⟨J,N,O,Q,_⟩:=bK.1 (bf.1 s).1;have E:=(bf.1 s).1;have I:=(bf.1 t).1;unfold St.b2;simp only[Bool.or_eq_false_iff,Bool.not_eq_false'];refine⟨⟨?_,s⟩,t⟩;unfold iq bZ gd
 have u:¬(!(decide (1≤f)&&decide (f≤5))||!(decide (0≤M.n)&&decide (M.n≤16))||decide (l<l)||decide (M.n≤l)||(l != l&&!fF f))=true:=by
  simp only[dL,Bool.not_eq_true',cA,Bool.and_eq_false_iff,decide_eq_false_iff_not,cm,bne_self_eq_false];simp;omega
 rw[ag u,ag (by rw[E,I];simp)];by_cases s:f=2∨f=4
 ·rw[ai (by simpa using s)];simpa using D s
 ·rw[ag (by simpa using s)];have:=z (by omega) (by omega);cases he:(lo.tag==hi.tag&&lo.to==hi.to)with
  |false=>rfl
  |true=>
   simp only[cA,beq_iff_eq]at he;exact absurd (by cases lo;cases hi;simp at he;rw[he.1,he.2]) this
theorem kg {M:St}{f l:Int}{x:Rec}{id:Int}(h:M.wf)(s:look M.cs id=some x)(J:x.ad=f)(N:f=3∨f=4)(h0:0≤l)(O:x.top=l+1):M.b2 ⟨f,l,x.J,x.lo,x.hi⟩=false:=by
 have g:=h.b4 s;have N:=h.b0;have N:=h.n0;have N:=g.tb;have N:=g.bn;have z:=(bf.1 g.lo).1;have D:=(bf.1 g.hi).1;have u:=g.lo;have t:=g.hi;rw[J]at z D u t;unfold St.b2;simp only[Bool.or_eq_false_iff,Bool.not_eq_false'];refine⟨⟨?_,u⟩,t⟩;unfold iq bZ gd fF
 have E:¬(!(decide (1≤f)&&decide (f≤5))||!(decide (0≤M.n)&&decide (M.n≤16))||decide (x.J<l)||decide (M.n≤x.J)||(l != x.J&&!(f==3||f==4)))=true:=by
  simp only[dL,Bool.not_eq_true',cA,Bool.and_eq_false_iff,Bool.or_eq_false_iff,decide_eq_false_iff_not,cm,beq_eq_false_iff_ne];omega
 rw[ag E,ag (by rw[z,D];simp)];by_cases I:f=4
 ·rw[ai (by simp[I])];simpa using g.zero (.inr (by omega))
 ·rw[ag (by simp;omega)];have:=g.apart (by omega) (by omega);cases he:(x.lo.tag==x.hi.tag&&x.lo.to==x.hi.to)with
  |false=>rfl
  |true=>
   simp only[cA,beq_iff_eq]at he;exact absurd (by cases s:x.lo;cases t:x.hi;rw[s,t]at he;simp at he;rw[he.1,he.2]) this
theorem lM {M:St}(h:M.wf){r:Rec}(s:M.b2 r=false)(t:M.len<M.a7):aP M (M.ba r):=⟨(jJ h s t).2.2.2.1,(jJ h s t).2.2.1⟩
structure du (M M2:St)(k:Int):Prop where
 ext:aP M M2
 wf:M2.wf
 len:M2.len≤M.len+k
 a7:M2.a7=M.a7
theorem du.refl {M:St}(h:M.wf){k:Int}(s:0≤k):du M M k:=⟨aP.refl M,h,by omega,rfl⟩
theorem lQ {M:St}(h:M.wf){r:Rec}(s:M.b2 r=false)(t:M.len<M.a7):du M (M.ba r) 1:=
 ⟨lM h s t,h.gz r,(tH M r).2,tJ M r⟩
structure iA (f:Int)(M:St)(l:Int)(lo hi:Edge):Prop where
 gy:fB M (cN f M l lo hi)=0
 fX:lf f (bT M (cN f M l lo hi)) l lo hi (bS f M (cN f M l lo hi))
 c':du M (bT M (cN f M l lo hi)) 1
theorem kA {f:Int}{M:St}{l:Int}{lo hi e:Edge}(h:M.wf)(hm:cN f M l lo hi=.inl (e,0))(u:ao M f e l=.inl (lo,hi,0))(E:cW M f e l=true)(D:cW M f lo (l+1)=true)(z:cW M f hi (l+1)=true):iA f M l lo hi:=by
 have t:bS f M (cN f M l lo hi)=e:=by rw[hm];unfold bS;split<;>rfl
 have s:bT M (cN f M l lo hi)=M:=by rw[hm];rfl
 exact⟨by rw[hm];rfl,by rw[t,s];exact⟨.inl hm,.inl u,E,D,z⟩,by rw[s];exact du.refl h (by omega)⟩
theorem jO {f:Int}{M:St}{l:Int}{lo hi:Edge}{r:Rec}(h:M.wf)(Q:f=3∨f=4∨f=5)(h0:0≤l)(aw:l<M.n)(N:M.len<M.a7)(hm:cN f M l lo hi=.inr r)(E:M.b2 r=false)(ad:r.ad=f)(ax:r.top=l)
  (Y:∀s,aP M s→s.wf→∀id,2≤id→look s.cs id=some r→s.leads f ⟨ek f r,id⟩ l=true →
    ao s f ⟨ek f r,id⟩ l=.inl (lo,hi,0)∨∃q,ao s f ⟨ek f r,id⟩ l=.inr q∧look s.cs lo.to=some q∧lo.tag=0∧hi=(if f=4 then lo else q.hi))
  (ah:∀s,aP M s→s.wf→fh s f r=false) (Z:fu M f r.lo.to) (ab:fu M f r.hi.to) (V:cW M f lo (l+1)=true) (T:cW M f hi (l+1)=true):iA f M l lo hi:=by
 obtain⟨w1,I,s,J,W,av⟩:=jJ h E N
 have z:=lM h E N
 have g:jx M r:=nT E
 have am:=h.b0
 have al:=h.n0
 have O:bT M (cN f M l lo hi)=M.ba r:=by rw[hm];rfl
 have D:0≤ek f r∧(f≠5→ek f r=0)∧(f=5→ek f r=l):=by
  unfold ek;rcases Q with rfl|rfl|rfl;·refine⟨?_,fun _=>?_,fun u=>by omega⟩<;>rw[ag (by decide)]<;>omega
  ·refine⟨?_,fun _=>?_,fun u=>by omega⟩<;>rw[ag (by decide)]<;>omega
  ·refine⟨?_,fun u=>absurd rfl u,fun _=>?_⟩<;>rw[ai rfl]<;>omega
 have X:bS f M (cN f M l lo hi)=⟨ek f r,M.bs r⟩:=by
  rw[hm];unfold bS ek;by_cases t:f=5;·rw[ai t,ai t];exact iG w1
  ·rw[ag t,ag t];exact iG w1
 have U:(M.ba r).leads f ⟨ek f r,M.bs r⟩ l=true:=by
  refine bf.2 ⟨bK.2 ⟨by omega,by omega,by rw[J];exact al,by rw[J];exact am,h0,by rw[J];omega,fun u=>?_,fun t _=>?_⟩,.inr ⟨r,I,ad,by omega,?_⟩⟩
  ·rcases u with u|u;·exact D.2.1 u
   ·have s:M.bs r=0:=u;omega
  ·have:=D.2.2 t;show l≤ek f r∧ek f r≤(M.ba r).n;rw[J];omega
  ·show ek f r≤r.top;by_cases t:f=5;·have:=D.2.2 t;omega
   ·have:=D.2.1 t;omega
 refine⟨by rw[hm];exact w1,?_,by rw[O];exact lQ h E N⟩
 rw[X,O]
 refine⟨.inr ⟨r,?_,I,rfl⟩,Y _ z W _ av I U,dd.2 ⟨U,?_⟩,mE z h V,mE z h T⟩
 ·rw[vS z (dd.1 V).1 (dd.1 T).1 Q];exact hm
 ·exact wK I (ah _ z W) (mu z h (me g.lo) Z) (mu z h (me g.hi) ab)
theorem vA {M:St}(h:M.wf){l:Int}{lo hi:Edge}(h0:0≤l)(X:l<M.n)(aw:M.len<M.a7)(I:cW M 5 lo (l+1)=true)(N:cW M 5 hi (l+1)=true):iA 5 M l lo hi:=by
 obtain⟨D,V⟩:=dd.1 I;obtain⟨Q,Z⟩:=dd.1 N;obtain⟨ay,a0,a1,a2,a6,a7,a3,a4⟩:=bK.1 (bf.1 D).1;obtain⟨a6,a7,a8,a9,a',ba,a5,bb⟩:=bK.1 (bf.1 Q).1;have z:¬(l<0∨M.n≤l):=by omega
 have T:¬(M.leads 5 lo (l+1)=false∨M.leads 5 hi (l+1)=false):=by rw[D,Q];simp
 by_cases J:lo=hi
 ·subst J;have E:=mD I h0 (show l≤l+1 by omega);refine kA h (by rw[jg];unfold bR;rw[ag z,ag T,ai rfl]) ?_ E I N
  have ax:lo.to=0∨l<lo.tag:=by
   by_cases u:lo.to=0;·exact .inl u
   ·have:=a4 rfl u;right;omega
  unfold ao;rw[ag z,ag (by rw[(dd.1 E).1];simp),ai ⟨rfl,ax⟩]
 ·by_cases t:hi.to=0∧lo.tag=l+1
  ·have u:lo.to≠0:=fun u=>by have:=a3 (.inr u);omega
   have ah:hi=⟨0,0⟩:=by
    have:=a5 (.inr t.1);cases hi;simp at this t;rw[this,t.1]
   have av:lo=⟨l+1,lo.to⟩:=by rw[←t.2]
   have O:M.leads 5 ⟨l,lo.to⟩ l=true:=by
    refine bf.2 ⟨bK.2 ⟨ay,a0,a1,a2,h0,by omega,fun s=>?_,fun _ _=>⟨by show l≤l;omega,by show l≤M.n;omega⟩⟩,?_⟩
    ·rcases s with s|s;·exact absurd rfl s
     ·exact absurd s u
    ·rcases(bf.1 D).2 with q|⟨r,ax,ay,a0,a1⟩;·exact .inl q
     ·exact .inr ⟨r,ax,ay,by omega,by show l≤r.top;omega⟩
   refine kA h (e:=⟨l,lo.to⟩) (by rw[jg];unfold bR;rw[ag z,ag T,ag J,ai t]) ?_ (dd.2 ⟨O,V⟩) I N
   have W:aZ 5 l ⟨l,lo.to⟩=(lo,hi,0):=by
    rw[ah];show(if(5:Int)=1∨(5:Int)=3 then _ else if(5:Int)=5 then((⟨l+1,lo.to⟩,⟨0,0⟩,0):Edge×Edge×Int)else _)=_;rw[ag (by decide),ai rfl,←av]
   unfold ao
   rw[ag z,ag (by rw[O];simp),ag (by
    rintro⟨_,s|s⟩;·exact u s
    ·have Y:l<l:=s
     omega)]
   show(match look M.cs lo.to with|none=>Sum.inl (aZ 5 l ⟨l,lo.to⟩)|some r=>_)=_;cases al:look M.cs lo.to with
   |none=>simp only[];rw[W]
   |some r=>
    obtain⟨u,ah,av⟩:=dQ D al;simp only[];rw[ai (by omega),W]
  ·have ad:=jk (f:=5) h0 X D Q (by omega) (fun _ _=>J);refine jO h (.inr (.inr rfl)) h0 X aw (r:=⟨5,l,l,lo,hi⟩) (by rw[jg];unfold bR;rw[ag z,ag T,ag J,ag t]) ad rfl rfl ?_ ?_ V Z I N
   ·intro U ab u id hid am O;left;unfold ao
    rw[ag (by rw[ab.n];exact z),ag (by rw[O];simp),ag (by
     rintro⟨_,s|s⟩
     ·have Y:id=0:=s;omega
     ·have Y:l<l:=s
      omega)]
    show(match look U.cs id with|none=>_|some r=>_)=_;rw[am];show(if l<l then _ else if((5:Int)=3∨(5:Int)=4)∧l≠l then _ else _)=_;rw[ag (by omega),ag (by omega)]
   ·intro U _ _;unfold fh;rw[ai rfl];show(decide (hi.to=0)&&decide (lo.tag=l+1))=false;cases E:(decide (hi.to=0)&&decide (lo.tag=l+1))with
    |false=>rfl
    |true=>
     rw[cA,cm,cm]at E;exact absurd E t
theorem vy {M:St}(h:M.wf){l:Int}{lo hi:Edge}(h0:0≤l)(T:l<M.n)(am:M.len<M.a7)(I:cW M 3 lo (l+1)=true)(N:cW M 3 hi (l+1)=true):iA 3 M l lo hi:=by
 obtain⟨z,O⟩:=dd.1 I;obtain⟨ab,ad⟩:=dd.1 N;obtain⟨a4,a5,a6,a7,a8,a9,a3,a'⟩:=bK.1 (bf.1 z).1;have E:¬(l<0∨M.n≤l):=by omega
 have Y:¬(M.leads 3 lo (l+1)=false∨M.leads 3 hi (l+1)=false):=by rw[z,ab];simp
 have Z:∀e:Edge,¬((3:Int)=5∧(e.to=0∨l<e.tag)):=fun e=>by omega
 by_cases J:lo=hi
 ·subst J;have D:=mD I h0 (show l≤l+1 by omega);refine kA h (by rw[je];unfold aC bk;rw[ag E,ag Y,ai rfl]) ?_ D I N;have ah:aZ 3 l lo=(lo,lo,0):=by simp[aZ]
  unfold ao;rw[ag E,ag (by rw[(dd.1 D).1];simp),ag (Z lo)];cases a0:look M.cs lo.to with
  |none=>simp only[];rw[ah]
  |some r=>
   obtain⟨al,ax,ay⟩:=dQ z a0;simp only[];rw[ai (by omega),ah]
 ·by_cases Q:∃x,look M.cs lo.to=some x∧x.top=l+1∧x.hi=hi
  ·obtain⟨x,s,aw,a1⟩:=Q;subst a1;obtain⟨al,ax,ay⟩:=dQ z s;have g:=h.b4 s;have ah:=g.tb;obtain⟨a2,ah⟩:=oX O s;have U:=kg h s al (.inl rfl) h0 aw;refine jO h (.inl rfl) h0 T am (r:=⟨3,l,x.J,x.lo,x.hi⟩) (by rw[je];unfold aC bk;rw[ag E,ag Y,ag J,s];show(if x.top=l+1 then(if x.hi=x.hi then _ else _)else _)=_;rw[ai aw,ai rfl]) U rfl rfl ?_ ?_ a2 ad I N
   ·intro u t X id hid V W;right;refine⟨x,?_,t.sub _ _ s,a3 (.inl (by decide)),by rw[ag (by decide)]⟩;unfold ao;rw[ag (by rw[t.n];exact E),ag (by rw[W];simp),ag (Z _)];show(match look u.cs id with|none=>_|some r=>_)=_;rw[V];show(if l<l then _ else if((3:Int)=3∨(3:Int)=4)∧x.J≠l then Sum.inr (⟨3,l+1,x.J,x.lo,x.hi⟩:Rec)else _)=_;rw[ag (by omega),ai ⟨.inl rfl,by omega⟩];congr 1
    cases x;simp_all
   ·intro u t _;have av:=O lo.to (Reaches.root (by simp) (by rw[s];simp));rw[s]at av;have X:fh u 3 x=false:=(m7 t h s).trans av;exact X
  ·have U:=jk (f:=3) h0 T z ab (by omega) (fun _ _=>J)
   have hm:cN 3 M l lo hi=.inr ⟨3,l,l,lo,hi⟩:=by
    rw[je];unfold aC bk;rw[ag E,ag Y,ag J];cases s:look M.cs lo.to with
    |none=>rfl
    |some x=>
     simp only[];by_cases J:x.top=l+1;·rw[ai J,ag (fun Y=>Q ⟨x,s,J,Y⟩)]
     ·rw[ag J]
   refine jO h (.inl rfl) h0 T am hm U rfl rfl ?_ ?_ O ad I N
   ·intro u t X id hid V W;left;unfold ao;rw[ag (by rw[t.n];exact E),ag (by rw[W];simp),ag (Z _)];show(match look u.cs id with|none=>_|some r=>_)=_;rw[V];show(if l<l then _ else if((3:Int)=3∨(3:Int)=4)∧l≠l then _ else _)=_;rw[ag (by omega),ag (by omega)]
   ·intro u t _;unfold fh;rw[ag (by decide)];show(match look u.cs lo.to with|none=>false|some y=>_)=false;rw[t.ds z];cases s:look M.cs lo.to with
    |none=>rfl
    |some x=>
     show(decide (x.top=l+1)&&(if(3:Int)=4 then decide (lo=hi)else decide (x.hi=hi)))=false;rw[ag (by decide)];cases D:(decide (x.top=l+1)&&decide (x.hi=hi))with
     |false=>rfl
     |true=>
      rw[cA,cm,cm]at D;exact absurd ⟨x,s,D.1,D.2⟩ Q
theorem vz {M:St}(h:M.wf){l:Int}{lo hi:Edge}(h0:0≤l)(U:l<M.n)(al:M.len<M.a7)(J:cW M 4 lo (l+1)=true)(N:cW M 4 hi (l+1)=true):iA 4 M l lo hi:=by
 obtain⟨z,O⟩:=dd.1 J;obtain⟨Q,aw⟩:=dd.1 N;obtain⟨a6,a7,a8,a9,a',ba,a4,bb⟩:=bK.1 (bf.1 z).1;obtain⟨a6,a7,a8,a9,a',ba,a5,bb⟩:=bK.1 (bf.1 Q).1;have I:¬(l<0∨M.n≤l):=by omega
 have Z:¬(M.leads 4 lo (l+1)=false∨M.leads 4 hi (l+1)=false):=by rw[z,Q];simp
 have ab:∀e:Edge,¬((4:Int)=5∧(e.to=0∨l<e.tag)):=fun e=>by omega
 by_cases D:hi.to=0
 ·have a0:hi=⟨0,0⟩:=by
   have:=a5 (.inl (by decide));cases hi;simp at this D;rw[this,D]
  have E:=mD J h0 (show l≤l+1 by omega);refine kA h (by rw[jf];unfold aC bo;rw[ag I,ag Z,ai D]) ?_ E J N;have ad:aZ 4 l lo=(lo,hi,0):=by rw[a0];simp[aZ]
  unfold ao;rw[ag I,ag (by rw[(dd.1 E).1];simp),ag (ab lo)];cases a1:look M.cs lo.to with
  |none=>simp only[];rw[ad]
  |some r=>
   obtain⟨ah,ax,ay⟩:=dQ z a1;simp only[];rw[ai (by omega),ad]
 ·by_cases T:lo=hi∧∃x,look M.cs lo.to=some x∧x.top=l+1
  ·obtain⟨rfl,x,s,av⟩:=T;obtain⟨ah,ax,ay⟩:=dQ z s;have g:=h.b4 s;have ad:=g.tb;obtain⟨a2,a3⟩:=oX O s;have V:=kg h s ah (.inr rfl) h0 av;refine jO h (.inr (.inl rfl)) h0 U al (r:=⟨4,l,x.J,x.lo,x.hi⟩) (by rw[jf];unfold aC bo;rw[ag I,ag Z,ag D,s];show(if lo=lo then(if x.top=l+1 then _ else _)else _)=_;rw[ai rfl,ai av]) V rfl rfl ?_ ?_ a2 a3 J N
   ·intro u t Y id hid W X;right;refine⟨x,?_,t.sub _ _ s,a4 (.inl (by decide)),by rw[ai rfl]⟩;unfold ao;rw[ag (by rw[t.n];exact I),ag (by rw[X];simp),ag (ab _)];show(match look u.cs id with|none=>_|some r=>_)=_;rw[W];show(if l<l then _ else if((4:Int)=3∨(4:Int)=4)∧x.J≠l then Sum.inr (⟨4,l+1,x.J,x.lo,x.hi⟩:Rec)else _)=_;rw[ag (by omega),ai ⟨.inr rfl,by omega⟩];congr 1
    cases x;simp_all
   ·intro u t _;have am:=O lo.to (Reaches.root (by simp) (by rw[s];simp));rw[s]at am;have Y:fh u 4 x=false:=(m7 t h s).trans am;exact Y
  ·have V:=jk (f:=4) h0 U z Q (fun _=>D) (by omega)
   have hm:cN 4 M l lo hi=.inr ⟨4,l,l,lo,hi⟩:=by
    rw[jf];unfold aC bo;rw[ag I,ag Z,ag D];cases s:look M.cs lo.to with
    |none=>rfl
    |some x=>
     simp only[];by_cases D:lo=hi;·rw[ai D,ag (fun Q=>T ⟨D,x,s,Q⟩)]
     ·rw[ag D]
   refine jO h (.inr (.inl rfl)) h0 U al hm V rfl rfl ?_ ?_ O aw J N
   ·intro u t Y id hid W X;left;unfold ao;rw[ag (by rw[t.n];exact I),ag (by rw[X];simp),ag (ab _)];show(match look u.cs id with|none=>_|some r=>_)=_;rw[W];show(if l<l then _ else if((4:Int)=3∨(4:Int)=4)∧l≠l then _ else _)=_;rw[ag (by omega),ag (by omega)]
   ·intro u t _;unfold fh;rw[ag (by decide)];show(match look u.cs lo.to with|none=>false|some y=>_)=false;rw[t.ds z];cases s:look M.cs lo.to with
    |none=>rfl
    |some x=>
     show(decide (x.top=l+1)&&(if(4:Int)=4 then decide (lo=hi)else decide (x.hi=hi)))=false;rw[ai rfl];cases E:(decide (x.top=l+1)&&decide (lo=hi))with
     |false=>rfl
     |true=>
      rw[cA,cm,cm]at E;exact absurd ⟨E.2,x,s,E.1⟩ T
open Go.RowKit
theorem pL (n:Nat)(E:n≤20)(w:World):Calls Tryz.prog 29 #[.int .i64 (n:Int)] w fun e u=>e=.returned (.int .i64 ((2 ^ n:Nat):Int))∧w=u:=by
 go_enter Tryz.func29,Tryz.ntmps29;go_wp2;go_loopg [3,4] n (fun gk u E wr=>∃d:Nat,d+gk=n∧E=.int .i64 (d:Int)∧u=.int .i64 ((2 ^ d:Nat):Int)∧w=wr)
 case atStart=>exact⟨0,by omega,rfl,rfl,rfl⟩
 case round=>
  obtain⟨d,I,rfl,rfl,rfl⟩:=hrel;by_cases u:d<n
  ·have t:2 ^ d≤2 ^ 20:=cJ (by decide) (by omega);have D:(2:Nat) ^ 20=1048576:=rfl;obtain⟨p,s⟩:∃p,p=2 ^ d:=⟨_,rfl⟩;have u:2 ^ (d+1)=2*p:=(by rw[s,dA];omega);rw[←s]at t ⊢;rw[D]at t;have t:=aa s;have z:=aa u;clear s u;go_wp2;go_roundg (gk-1)
   case rel=>exact⟨d+1,by omega,by simp,by rw[z.out];push_cast;congr 1,rfl⟩
   case measure=>omega
  ·have e:d=n:=(by omega);subst e;go_wp2;go_ret;exact⟨rfl,rfl⟩
theorem nm (n:Nat)(N:n≤20)(a:Int)(W:0≤a)(X:a≤18446744073709551615)(w:World) :
  Calls Tryz.prog 25 #[.int .i64 (n:Int),.int .u64 a] w fun e z=>∃bs,bs.length=2 ^ n∧e=.returned (.slice (some ⟨w.heap.size,0,none⟩) (2 ^ n) (2 ^ n))∧cR z w.heap.size bs∧ae w z:=by
 have E:=aa (pL n N w)
 have I:2 ^ n≤2 ^ 20:=cJ (by decide) N
 have V:(2:Nat) ^ 20=1048576:=rfl
 obtain⟨p,Q⟩:∃p,p=2 ^ n:=⟨_,rfl⟩
 rw[←Q]at I E ⊢
 rw[V]at I
 clear Q
 obtain⟨Z,Y,ab,ad,ah⟩:=info_parts (show(Tryz.prog.info? 4).map (fun i=>(i.zero,i.size,i.bytes))=some (some (.bool false),1,1) by kernel_rfl)
 go_enter Tryz.func25,Tryz.ntmps25
 go_wp2_with (first
  |(go_at_call 29;refine E.out.mono ?_;rintro e z ⟨rfl,rfl⟩)
  |(at_make;refine wpList_make_full _ rfl _ _ 62 rfl w.heap.size 4 Z (.bool false) 1 Tryz.underlying62 Y ab ad .i64 .i64 (p:Int) (p:Int) p rfl rfl rfl rfl (by rw[ah];omega) (by unfold maxLen;omega) (aI _) ?_;intro w1 O s)
  |fail)
 have T:=aa (rP O)
 have U:=aa (show ae w w1 from⟨s.os,s.tape,s.output,s.size,fun i hi=>s.block i hi (by simp)⟩)
 clear O s
 go_loopg [1,6] p (fun gk s z wr=>∃(d:Nat) (b:Int) (bs:List Bool),d+gk=p∧z=.int .i64 (d:Int)∧s=.int .u64 b∧0≤b∧b≤18446744073709551615∧bs.length=p∧cR wr w.heap.size bs∧ae w wr)
 case atStart=>exact⟨0,a,_,by omega,rfl,rfl,W,X,by simp,T.out,U.out⟩
 case round=>
  obtain⟨d,b,bs,al,rfl,rfl,z,E,J,s,u⟩:=hrel;have t:=aa s;have D:=aa u;clear s u;by_cases s:d<p
  ·have s:=t.out.cell (i:=d) (b:=bs[d]'(by omega)) (aQ _);have s:=t.out.frozen d;go_wp2;go_roundg (gk-1)
   case rel=>exact⟨d+1,b / 2,bs.set d _,by omega,by simp,rfl,by omega,by omega,by simp[J],t.out.set d _,D.out.new ((af.refl (fun k=>k=w.heap.size) wr).setCell (Or.inl rfl) _) (fun k u=>by omega)⟩
   case measure=>omega
  ·go_wp2;go_ret;exact⟨bs,J,rfl,t.out,D.out⟩
def bI (f:Int)(b:Bool)(l:Int):Edge:=if b then(if f=5 then⟨l,1⟩else⟨0,1⟩)else⟨0,0⟩
theorem lJ {f:Int}{b:Bool}{l:Int}(h0:0≤l)(s:l≤16):(bI f b l).ok:=by
 unfold bI;split
 ·split;·exact⟨⟨by show 0≤l;omega,by show l≤255;omega⟩,⟨by show(0:Int)≤1;omega,by show(1:Int)≤4294967295;omega⟩⟩
  ·exact⟨by decide,by decide⟩
 ·exact⟨by decide,by decide⟩
theorem tu {M:St}(h:M.wf){f:Int}{b:Bool}(I:f=3∨f=4∨f=5):cW M f (bI f b M.n) M.n=true:=by
 have D:=h.n0;have E:=h.b0
 have z:(bI f b M.n).to<2:=by
  unfold bI;split
  ·split;·show(1:Int)<2;omega
   ·show(1:Int)<2;omega
  ·show(0:Int)<2;omega
 refine dd.2 ⟨bf.2 ⟨bK.2 ⟨by omega,by omega,D,E,D,by omega,fun s=>?_,fun t u=>?_⟩,.inl z⟩,wJ (fq z)⟩
 ·unfold bI at s ⊢;split at s
  ·split at s
   ·rename_i t;rcases s with s|s;·exact absurd t s
    ·have z:(1:Int)=0:=s;omega
   ·rw[ai (by assumption),ag (by assumption)]
  ·rw[ag (by assumption)]
 ·unfold bI at u ⊢;split at u
  ·rw[ai (by assumption),ai t];exact⟨by show M.n≤M.n;omega,by show M.n≤M.n;omega⟩
  ·exact absurd rfl u
theorem tm (b:Bool)(l:Int)(h0:0≤l)(u:l≤16)(w:World):Calls Tryz.prog 119 #[.bool b,.int .i64 l] w fun e t=>e=.returned (.agg #[.int .u8 (bI 5 b l).tag,.int .u32 (bI 5 b l).to])∧ae w t:=by
 have s:IntKind.u8.wrap l=l:=IntWalk.u8_in l ⟨by omega,by omega⟩;cases b
 ·go_enter Tryz.func119,Tryz.ntmps119;go_wp2;all_goals refine an (v:=.agg #[.int .u8 0,.int .u32 0]) (by simp[results,Tryz.results119,go_sem]) rfl ⟨rfl,kp⟩
 ·go_enter Tryz.func119,Tryz.ntmps119;go_wp2;all_goals refine an (v:=.agg #[.int .u8 l,.int .u32 1]) (by simp[results,Tryz.results119,go_sem,s]) rfl ⟨rfl,kp⟩
theorem du.trans {a b c:St}{j k m:Int}(h:du a b j)(s:du b c k)(hm:j+k≤m):du a c m:=
 ⟨h.ext.trans s.ext,s.wf,by have:=h.len;have:=s.len;omega,s.a7.trans h.a7⟩
theorem mo {f:Int}{M:St}{l:Int}{lo hi:Edge}(h:M.wf)(t:M.cs.length≤1048576)(s:lo.ok)(D:hi.ok)(h0:0≤l)(u:l≤255)(z:f=3∨f=4∨f=5):(bS f M (cN f M l lo hi)).ok:=by
 rcases z with rfl|rfl|rfl
 ·rw[je];show(dx M _).ok;unfold aC bk;repeat' split
  all_goals first|exact eF|exact s|exact iF h t 0 (by omega) _
 ·rw[jf];show(dx M _).ok;unfold aC bo;repeat' split
  all_goals first|exact eF|exact s|exact iF h t 0 (by omega) _
 ·rw[jg];show(iX M _).ok;unfold bR;repeat' split
  all_goals first|exact eF|exact s|exact⟨⟨h0,u⟩,s.2⟩|exact iF h t l ⟨h0,u⟩ _
structure bx (F:Nat→Prop)(W w':World)(sb:Nat)(M:St):Prop where
 ex:∃F',aq F' w' sb M∧∀j,F' j→F j∨W.heap.size≤j
 upd:af F W w'
theorem bx.refl {F:Nat→Prop}{s:World}{sb:Nat}{M:St}(h:aq F s sb M):bx F s s sb M:=⟨⟨F,h,fun _ s=>.inl s⟩,af.refl _ _⟩
theorem bx.U {F:Nat→Prop}{s w1 u:World}{sb:Nat}{M:St}(h:bx F s w1 sb M)(t:ae w1 u):bx F s u sb M:=by
 obtain⟨⟨F',s,u⟩,z⟩:=h;exact⟨⟨F',s.U t,u⟩,z.bd (ae.upd t _)⟩
theorem bx.call {F:Nat→Prop}{u w1 I:World}{sb:Nat}{M D:St}(h:bx F u w1 sb M)(N:∀F',aq F' w1 sb M→(∀j,F' j→F j∨u.heap.size≤j)→bx F' w1 I sb D):bx F u I sb D:=by
 obtain⟨⟨F',J,z⟩,E⟩:=h;obtain⟨⟨u,D,Q⟩,I⟩:=N F' J z;have J:=E.size;refine⟨⟨u,D,fun j t=>?_⟩,E.trans (I.mono (fun k O s=>?_))⟩
 ·rcases Q j t with t|t;·exact z j t
  ·right;omega
 ·rcases z k s with s|s;·exact .inl s
  ·exact .inr ⟨s,O⟩
theorem bx.after {F:Nat→Prop}{s t w1:World}{sb:Nat}{M:St}(u:ae s t)(h:bx F t w1 sb M):bx F s w1 sb M:=by
 obtain⟨⟨F',s,z⟩,D⟩:=h;have t:=u.size;exact⟨⟨F',s,fun j E=>by rcases z j E with q|q;exact .inl q;right;omega⟩,(ae.upd u F).bd D⟩
theorem bx.step {F z:Nat→Prop}{u w1 D N:World}{sb:Nat}{M:St}(I:∀j,z j→F j∨u.heap.size≤j)(J:af F u w1)(E:ae w1 D)(h:bx z D N sb M):bx F u N sb M:=by
 obtain⟨⟨u,z,O⟩,D⟩:=h;have N:=J.size;have N:=E.size;refine⟨⟨u,z,fun j t=>?_⟩,(J.bd (ae.upd E F)).trans (D.mono (fun k Q s=>?_))⟩
 ·rcases O j t with t|t;·exact I j t
  ·right;omega
 ·rcases I k s with s|s;·exact .inl s
  ·exact .inr ⟨s,Q⟩
theorem bx.gh {F t:Nat→Prop}{w s:World}{sb:Nat}{M:St}(J:aq t s sb M)(sub:∀j,t j→F j∨w.heap.size≤j)(N:af F w s){b:Nat}(E:¬t b)(D:w.heap.size≤b)(u z:Value) :
  bx F w ((s.setCell ⟨b,0,none⟩ u).setCell ⟨b,1,none⟩ z) sb M:=by
 have I:af (fun k=>k=b) s ((s.setCell ⟨b,0,none⟩ u).setCell ⟨b,1,none⟩ z):=((af.refl (fun k=>k=b) s).setCell (p:=⟨b,0,none⟩) (Or.inl rfl) u).setCell (p:=⟨b,1,none⟩) (Or.inl rfl) z
 exact⟨⟨t,J.keep I (fun k s e=>E (e ▸ s)),sub⟩,(N.setCell (p:=⟨b,0,none⟩) (Or.inr D) u).setCell (p:=⟨b,1,none⟩) (Or.inr D) z⟩
theorem bx.of {F:Nat→Prop}{u t:World}{sb:Nat}{M:St}(z:af F u t)(hS:aq (aH F u t) t sb M):bx F u t sb M:=
 ⟨⟨_,hS,fun j s=>by rcases s with s|s;exact .inl s;exact .inr s.1⟩,z⟩
theorem bx.frz {F:Nat→Prop}{s t:World}{sb:Nat}{M:St}(h:bx F s t sb M){b o:Nat}(D:b<s.heap.size)(u:¬F b)(z:s.frozen? ⟨b,o,none⟩=false):t.frozen? ⟨b,o,none⟩=false:=
 (World.frozen?_of_block (a:=⟨b,o,none⟩) (h.upd.block b D u)).trans z
theorem bx.cell {F:Nat→Prop}{s t:World}{sb:Nat}{M:St}(h:bx F s t sb M){b o:Nat}{v:Value}(u:¬F b)(z:s.cell? ⟨b,o,none⟩=some v):t.cell? ⟨b,o,none⟩=some v:=h.upd.cellAt u z
end Go.Proofs.YtafkamlhimkbmaaGreat
