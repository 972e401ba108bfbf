/-
  How many ids; a store alone; plainly.
-/
import Derived.Test.YtafkamlhimkbmaaGreatPHPlainA
import Derived.Test.YtafkamlhimkbmaaGreatPSweepA
import Derived.Test.YtafkamlhimkbmaaGreatPUnfBase
import Derived.Maps.AppendAt
namespace Go.Proofs.YtafkamlhimkbmaaGreat
set_option maxRecDepth 1000000
set_option maxHeartbeats 8000000
set_option linter.unusedSimpArgs false
set_option linter.unusedVariables false
open Go.RowKit

theorem wj {F:Nat→Prop}{w:World}{T:Nat}{M:St}(h:ag F w T M):((bS M.cs).length:Int)=M.len:=by
 have T:=h.b2;obtain⟨⟨am,ib,ts,ab,ad,av,aw,T,a1,z,_⟩,_⟩:=h;have Y:=T.ok.c9
 have E:(ts.filterMap (fun o=>o.map Prod.snd)).length=occ ts:=by
  rw[List.length_filterMap_eq_countP];unfold occ;refine List.countP_congr (fun o _=>?_);cases o<;>simp
 have O:∀x,x∈ts.filterMap (fun o=>o.map Prod.snd)↔x∈bS M.cs:=by
  intro x;rw[kA,List.mem_filterMap];constructor
  ·rintro⟨o,X,j⟩;cases o with
   |none=>simp at j
   |some p=>
    obtain⟨r,id⟩:=p;simp at j;subst j;obtain⟨i,hi⟩:=List.getElem?_of_mem X;rw[(z r id).1 ⟨i,hi⟩];simp
  ·intro j;cases E:look M.cs x with
   |none=>exact absurd E j
   |some r=>
    obtain⟨i,hi⟩:=(z r x).2 E;exact⟨_,List.mem_of_getElem? hi,rfl⟩
 have W:(ts.filterMap (fun o=>o.map Prod.snd)).Nodup:=by
  unfold List.Nodup;rw[List.pairwise_filterMap,List.pairwise_iff_getElem];intro i A hi U E x j y s e;subst e;cases I:ts[i]with
  |none=>rw[I]at j;simp at j
  |some p=>
   cases J:ts[A]with
   |none=>rw[J]at s;simp at s
   |some Z=>
    rw[I]at j;rw[J]at s;obtain⟨r,id⟩:=p;obtain⟨S,q⟩:=Z;simp at j s;subst j;subst s;have K:ah.at ts i r q:=(by unfold ah.at;rw[List.getElem?_eq_getElem hi,I]);have L:ah.at ts A S q:=(by unfold ah.at;rw[List.getElem?_eq_getElem U,J]);have N:=(z r q).1 ⟨i,K⟩;have t:=(z S q).1 ⟨A,L⟩;rw[N]at t;cases t;have:=Y i A r q q K L;omega
 have N:=ql W (fun x j=>(O x).1 j);have t:=ql (jN (my M.cs 2)) (fun x j=>(O x).2 j);have j:(bS M.cs).length≤(ts.filterMap (fun o=>o.map Prod.snd)).length:=t;omega

theorem yx (M:St)(roots:List Int):(aQ M.cs roots).length+(di M roots).length=(bS M.cs).length:=by
 have q:aQ M.cs roots=(bS M.cs).filter (fun x=>decide (x∈aQ M.cs roots)):=by
  refine nK (iX _ _) (List.Pairwise.filter _ (my M.cs 2)) (fun x=>?_);rw[List.mem_filter,kA];simp only[decide_eq_true_eq];exact⟨fun j=>⟨(eL.1 j).some,j⟩,fun j=>j.2⟩
 have s:(aQ M.cs roots).length=(bS M.cs).countP (fun x=>decide (x∈aQ M.cs roots)):=by
  rw[List.countP_eq_length_filter,←q]
 have t:(di M roots).length=(bS M.cs).countP (fun x=>!decide (x∈aQ M.cs roots)):=by
  rw[List.countP_eq_length_filter];rfl
 rw[s,t,List.length_eq_countP_add_countP (p:=fun x=>decide (x∈aQ M.cs roots))];congr 1
 refine List.countP_congr (fun x _=>?_);simp

def ak (f:Int)(M:St)(l:Int)(lo hi:Edge):(Edge×Int) ⊕ Rec:=
 if f=5 then bo M l lo hi else if f=3 then al M 3 l lo hi (aW M l lo hi)else if f=4 then al M 4 l lo hi (aZ M l lo hi)
 else if f=1 then al M 1 l lo hi (bY M l lo hi)else al M 2 l lo hi (cr M l lo hi)

theorem fe (M:St)(l:Int)(lo hi:Edge):ak 1 M l lo hi=al M 1 l lo hi (bY M l lo hi):=rfl

theorem ff (M:St)(l:Int)(lo hi:Edge):ak 2 M l lo hi=al M 2 l lo hi (cr M l lo hi):=rfl

theorem fU (M:St)(l:Int)(lo hi:Edge):ak 3 M l lo hi=al M 3 l lo hi (aW M l lo hi):=rfl

theorem fV (M:St)(l:Int)(lo hi:Edge):ak 4 M l lo hi=al M 4 l lo hi (aZ M l lo hi):=rfl

theorem fH (M:St)(l:Int)(lo hi:Edge):ak 5 M l lo hi=bo M l lo hi:=rfl

structure cR (f:Int)(M:St)(l:Int)(lo hi e:Edge):Prop where
 up:ak f M l lo hi=.inl (e,0)∨∃r,ak f M l lo hi=.inr r∧look M.cs e.to=some r∧e.tag=df f r
 ek:af M f e l=.inl (lo,hi,0)∨∃q,af M f e l=.inr q∧look M.cs lo.to=some q∧lo.tag=0∧hi=(if f=4 then lo else q.hi)
 leads:M.leads f e l=true
 lo:M.leads f lo (l+1)=true
 hi:M.leads f hi (l+1)=true

theorem lI.fp {f:Int}{M:St}{l:Int}{lo hi e:Edge}(h:lI f M l lo hi e)(j:f=3∨f=4∨f=5):cR f M l lo hi e:=by
 refine⟨?_,h.ek,(cC.1 h.right).1,(cC.1 h.lo).1,(cC.1 h.hi).1⟩;have q:=h.up;rcases j with rfl|rfl|rfl<;>exact q

theorem cR.dj {f:Int}{M:St}(K:M.wf){l:Int}{lo hi e q:Edge}(h:cR f M l lo hi e)(t:cR f M l lo hi q):e=q:=by
 rcases h.up with s|⟨r,s,I,z⟩
 ·rcases t.up with j|⟨L,j,_,_⟩;·rw[s]at j;cases j;rfl
  ·rw[s]at j;cases j
 ·rcases t.up with j|⟨L,j,J,A⟩;·rw[s]at j;cases j
  ·rw[s]at j;cases j;have E:e.to=q.to:=K.b2 r e.to q.to I J;cases e;cases q;simp only at E z A;rw[E,z,A]

theorem cR.inj {f:Int}{M:St}(S:M.wf){l:Int}{lo hi q E e:Edge}(h:cR f M l lo hi e)(z:cR f M l q E e):lo=q∧hi=E:=by
 rcases h.ek with s|⟨T,s,L,A,N⟩
 ·rcases z.ek with j|⟨U,j,_⟩;·rw[s]at j;cases j;exact⟨rfl,rfl⟩
  ·rw[s]at j;cases j
 ·rcases z.ek with j|⟨U,j,J,t,K⟩;·rw[s]at j;cases j
  ·rw[s]at j;cases j;have I:lo.to=q.to:=S.b2 T lo.to q.to L J
   have O:lo=q:=by
    cases lo;cases q;simp only at I A t;rw[I,A,t]
   subst O;exact⟨rfl,by rw[N,K]⟩

theorem vd {f:Int}{b b':Bool}{l:Int}(h:cc f b l=cc f b' l):b=b':=by
 have key:∀b:Bool,(cc f b l).to=if b then 1 else 0:=by
  intro b;unfold cc;cases b;·rfl
  ·by_cases j:f=5;·rw[if_pos rfl,if_pos j];rfl
   ·rw[if_pos rfl,if_neg j];rfl
 have:=congrArg Edge.to h;rw[key,key]at this;cases b<;>cases b'<;>first|rfl|(exfalso;revert this;decide)

theorem ve {M:St}(h:M.wf){f:Int}{b:Bool}(E:1≤f∧f≤5):M.leads f (cc f b M.n) M.n=true:=by
 have t:=h.n0;have A:=h.bw
 have z:(cc f b M.n).to<2:=by
  unfold cc;split
  ·split;·show(1:Int)<2;omega
   ·show(1:Int)<2;omega
  ·show(0:Int)<2;omega
 refine aY.2 ⟨bm.2 ⟨by omega,by omega,t,A,t,by omega,fun j=>?_,fun q s=>?_⟩,.inl z⟩
 ·unfold cc at j ⊢;split at j
  ·split at j
   ·rename_i q;rcases j with j|j;·exact absurd q j
    ·have t:(1:Int)=0:=j;omega
   ·rw[if_pos (by assumption),if_neg (by assumption)]
  ·rw[if_neg (by assumption)]
 ·unfold cc at s ⊢;split at s
  ·rw[if_pos (by assumption),if_pos q];exact⟨by show M.n≤M.n;omega,by show M.n≤M.n;omega⟩
  ·exact absurd rfl s

def aC (f:Int)(M:St):Nat→List Bool→Int→Edge→Prop
 |0,ts,l,e=>∃b,ts=[b]∧e=cc f b l
 |k+1,ts,l,e=>ts.length=2 ^ (k+1)∧∃lo hi,aC f M k (ts.take (2 ^ k)) (l+1) lo∧aC f M k (ts.drop (2 ^ k)) (l+1) hi∧cR f M l lo hi e

theorem aC.length {f:Int}{M:St}:∀{k:Nat} {ts:List Bool} {l:Int} {e:Edge},aC f M k ts l e→ts.length=2 ^ k:=by
 intro k ts l e h;cases k with
 |zero=>obtain⟨b,rfl,_⟩:=h;rfl
 |succ k=>exact h.1

theorem aC.inj {f:Int}{M:St}(L:M.wf):∀(k:Nat) (ts j:List Bool) (l:Int) (e:Edge),aC f M k ts l e→aC f M k j l e→ts=j:=by
 intro k;induction k with
 |zero=>
  intro ts j l e h q;obtain⟨b,rfl,s⟩:=h;obtain⟨b',rfl,K⟩:=q;rw[vd (f:=f) (l:=l) (b:=b) (b':=b') (by rw[←s,←K])]
 |succ k t=>
  intro ts j l e h q;obtain⟨_,lo,K,I,s,J⟩:=h;obtain⟨_,N,K,z,A,E⟩:=q;obtain⟨rfl,rfl⟩:=J.inj L E;rw[←List.take_append_drop (2 ^ k) ts,←List.take_append_drop (2 ^ k) j,t _ _ _ _ I z,t _ _ _ _ s A]

theorem aC.dj {f:Int}{M:St}(L:M.wf):∀(k:Nat) (ts:List Bool) (l:Int) (e j:Edge),aC f M k ts l e→aC f M k ts l j→e=j:=by
 intro k;induction k with
 |zero=>
  intro ts l e j h q;obtain⟨b,rfl,s⟩:=h;obtain⟨b',t,I⟩:=q;cases t;rw[s,I]
 |succ k z=>
  intro ts l e j h q;obtain⟨_,lo,j,K,s,t⟩:=h;obtain⟨_,O,N,j,I,J⟩:=q;have A:=z _ _ _ _ K j;have E:=z _ _ _ _ s I;subst A;subst E;exact t.dj L J

theorem aC.leads {f:Int}{M:St}(s:M.wf)(j:1≤f∧f≤5){k:Nat}{ts:List Bool}{l:Int}{e:Edge}(h:aC f M k ts l e)(q:l+k=M.n):M.leads f e l=true:=by
 cases k with
 |zero=>
  obtain⟨b,_,rfl⟩:=h;have:l=M.n:=by simpa using q
  rw[this];exact ve s j
 |succ k=>obtain⟨_,_,_,_,_,j⟩:=h;exact j.leads

theorem aC.I {f:Int}{M:St}(t:M.wf)(j:1≤f∧f≤5){k:Nat}{ts:List Bool}{l:Int}{e:Edge}(h:aC f M k ts l e)(q:l+k=M.n){r:Rec}(s:look M.cs e.to=some r):l≤r.I:=
 (dD (h.leads t j q) s).2.1

theorem yc:∀(a b:List Bool),ax (a++b)=(ax a&&ax b):=by
 intro a;induction a with
 |nil=>intro b;rfl
 |cons x a j=>
  intro b;show(!x&&ax (a++b))=((!x&&ax a)&&ax b);rw[j,Bool.and_assoc]

theorem kS (p:Nat)(ts:List Bool):ax ts=(ax (ts.take p)&&ax (ts.drop p)):=by
 rw[←yc,List.take_append_drop]

theorem ja {j q:List Bool}:aF j q=false↔j≠q:=by
 rw[←Bool.not_eq_true,eD]

theorem qj {M M':St}(j:az M M'){f l:Int}{lo hi:Edge}(q:M.leads f lo (l+1)=true)(s:M.leads f hi (l+1)=true)(z:1≤f∧f≤5):ak f M' l lo hi=ak f M l lo hi:=by
 have a:=j.leads q;have b:=j.leads s;have c:=j.c8 q;have t:f=1∨f=2∨f=3∨f=4∨f=5:=by omega
 rcases t with rfl|rfl|rfl|rfl|rfl
 ·rw[fe,fe];unfold al bY;rw[j.n,a,b,q,s]
 ·rw[ff,ff];unfold al cr;rw[j.n,a,b,q,s]
 ·rw[fU,fU];unfold al aW;rw[j.n,a,b,q,s,c]
 ·rw[fV,fV];unfold al aZ;rw[j.n,a,b,q,s,c]
 ·rw[fH,fH];unfold bo;rw[j.n,a,b,q,s]

theorem cR.ext {f:Int}{M M':St}{l:Int}{lo hi e:Edge}(h:cR f M l lo hi e)(j:az M M')(z:1≤f∧f≤5):cR f M' l lo hi e:=by
 refine⟨?_,?_,j.leads h.leads,j.leads h.lo,j.leads h.hi⟩
 ·rw[qj j h.lo h.hi z];rcases h.up with u|⟨r,q,s,t⟩;·exact .inl u
  ·exact .inr ⟨r,q,j.sub _ _ s,t⟩
 ·rw[rX j h.leads];rcases h.ek with u|⟨r,q,s,t⟩;·exact .inl u
  ·exact .inr ⟨r,q,j.sub _ _ s,t⟩

theorem aC.ext {f:Int}{M M':St}(z:az M M')(A:1≤f∧f≤5):∀(k:Nat) (ts:List Bool) (l:Int) (e:Edge),aC f M k ts l e→aC f M' k ts l e:=by
 intro k;induction k with
 |zero=>intro ts l e h;exact h
 |succ k j=>
  intro ts l e h;obtain⟨E,lo,hi,q,s,t⟩:=h;exact⟨E,lo,hi,j _ _ _ q,j _ _ _ s,t.ext z A⟩

def bH (M:St)(f:Int)(e:Edge)(l:Int):Prop:=f=3∨f=4∨f=5→bf M f e l=true

structure iG (f:Int)(M:St)(l:Int)(lo hi:Edge):Prop where
 hl:bX M (ak f M l lo hi)=0
 fp:cR f (aR M (ak f M l lo hi)) l lo hi (aH f M (ak f M l lo hi))
 cy:dg M (aR M (ak f M l lo hi)) 1
 right:bH (aR M (ak f M l lo hi)) f (aH f M (ak f M l lo hi)) l

theorem gY.all {f:Int}{M:St}{l:Int}{lo hi:Edge}(h:gY f M l lo hi)(j:f=3∨f=4∨f=5):iG f M l lo hi:=by
 have e:ak f M l lo hi=cG f M l lo hi:=by rcases j with rfl|rfl|rfl<;>rfl
 refine⟨by rw[e];exact h.hl,by rw[e];exact h.f'.fp j,by rw[e];exact h.cy,fun _=>by rw[e];exact h.f'.right⟩

theorem qk {f:Int}{M:St}{l:Int}{lo hi:Edge}(h:M.wf)(U:f=1∨f=2)(K:0≤l)(T:l<M.n)(z:M.len<M.room)(E:M.leads f lo (l+1)=true)(I:M.leads f hi (l+1)=true)
  (j:ak f M l lo hi=.inr ⟨f,l,l,lo,hi⟩) (t:M.bq ⟨f,l,l,lo,hi⟩=false):iG f M l lo hi:=by
 obtain⟨w1,A,T,q,U,W⟩:=ju h t z
 have s:=ml h t z
 have S:=h.bw
 have O:=h.n0
 have J:aR M (ak f M l lo hi)=M.a6 ⟨f,l,l,lo,hi⟩:=by rw[j];rfl
 have N:aH f M (ak f M l lo hi)=⟨0,M.bg ⟨f,l,l,lo,hi⟩⟩:=by
  rw[j];unfold aH;rw[if_neg (by omega)];exact dW w1
 have L:(M.a6 ⟨f,l,l,lo,hi⟩).leads f ⟨0,M.bg ⟨f,l,l,lo,hi⟩⟩ l=true:=
  aY.2 ⟨bm.2 ⟨by omega,by omega,by rw[q];exact O,by rw[q];exact S,K,by rw[q];omega,fun _=>rfl,fun O=>by omega⟩,.inr ⟨_,A,rfl,Int.le_refl _,K⟩⟩
 refine⟨by rw[j];exact w1,?_,by rw[J];exact mq h t z,fun K=>by omega⟩
 rw[N,J]
 refine⟨.inr ⟨_,?_,A,by unfold df;rw[if_neg (by omega)]⟩,?_,L,s.leads E,s.leads I⟩
 ·rw[qj s E I (by omega)];exact j
 ·left;unfold af;rw[if_neg (by rw[q];omega),if_neg (by rw[L];simp),if_neg (by omega)];show(match look (M.a6 ⟨f,l,l,lo,hi⟩).cs (M.bg ⟨f,l,l,lo,hi⟩)with|none=>_|some r=>_)=_;rw[A];show(if l<l then _ else if(f=3∨f=4)∧l≠l then _ else _)=_;rw[if_neg (by omega),if_neg (by omega)]

theorem qT {f:Int}{M:St}{l:Int}{lo hi:Edge}(h:M.wf)(L:f=1∨f=2)(I:0≤l)(K:l<M.n)(q:M.leads f lo (l+1)=true)(A:M.leads f hi (l+1)=true)
  (j:ak f M l lo hi=.inl (lo,0)) (z:aI f l lo=(lo,hi,0)):iG f M l lo hi:=by
 have s:aR M (ak f M l lo hi)=M:=by rw[j];rfl
 have E:aH f M (ak f M l lo hi)=lo:=by
  rw[j];unfold aH;split<;>rfl
 have t:=kH q I (show l≤l+1 by omega)
 refine⟨by rw[j];rfl,?_,by rw[s];exact dg.refl h (by omega),fun I=>by omega⟩
 rw[E,s]
 refine⟨.inl j,.inl ?_,t,q,A⟩
 unfold af
 rw[if_neg (by omega),if_neg (by rw[t];simp),if_neg (by omega)]
 cases J:look M.cs lo.to with
 |none=>simp only[];rw[z]
 |some r=>
  obtain⟨j,s,t⟩:=dD q J;simp only[];rw[if_pos (by omega),z]

theorem xE {M:St}(h:M.wf){l:Int}{lo hi:Edge}(s:0≤l)(t:l<M.n)(E:M.len<M.room)(j:M.leads 1 lo (l+1)=true)(q:M.leads 1 hi (l+1)=true):iG 1 M l lo hi:=by
 have A:¬(l<0∨M.n≤l):=by omega
 have z:¬(M.leads 1 lo (l+1)=false∨M.leads 1 hi (l+1)=false):=by rw[j,q];simp
 by_cases c:lo=hi
 ·refine qT h (.inl rfl) s t j q (by rw[fe];unfold al bY;rw[if_neg A,if_neg z,if_pos c]) ?_;subst c;rfl
 ·exact qk h (.inl rfl) s t E j q (by rw[fe];unfold al bY;rw[if_neg A,if_neg z,if_neg c]) (iT (f:=1) s t j q (by omega) (fun _ _=>c))

theorem xF {M:St}(h:M.wf){l:Int}{lo hi:Edge}(s:0≤l)(t:l<M.n)(I:M.len<M.room)(q:M.leads 2 lo (l+1)=true)(j:M.leads 2 hi (l+1)=true):iG 2 M l lo hi:=by
 have A:¬(l<0∨M.n≤l):=by omega
 have z:¬(M.leads 2 lo (l+1)=false∨M.leads 2 hi (l+1)=false):=by rw[q,j];simp
 obtain⟨K,L,N,O,S,T,J,U⟩:=bm.1 (aY.1 j).1;by_cases c:hi.to=0
 ·refine qT h (.inr rfl) s t q j (by rw[ff];unfold al cr;rw[if_neg A,if_neg z,if_pos c]) ?_
  have E:hi=⟨0,0⟩:=by
   have:=J (.inl (by decide));cases hi;simp at this c;rw[this,c]
  rw[E];rfl
 ·exact qk h (.inr rfl) s t I q j (by rw[ff];unfold al cr;rw[if_neg A,if_neg z,if_neg c]) (iT (f:=2) s t q j (fun _=>c) (by omega))

theorem qd {f:Int}{M:St}(h:M.wf){l:Int}{lo hi:Edge}(J:1≤f∧f≤5)(j:0≤l)(q:l<M.n)(s:M.len<M.room)(A:M.leads f lo (l+1)=true)(E:M.leads f hi (l+1)=true)
  (z:bH M f lo (l+1)) (t:bH M f hi (l+1)):iG f M l lo hi:=by
 have I:f=1∨f=2∨f=3∨f=4∨f=5:=by omega
 rcases I with rfl|rfl|rfl|rfl|rfl
 ·exact xE h j q s A E
 ·exact xF h j q s A E
 ·exact(xG h j q s (z (.inl rfl)) (t (.inl rfl))).all (.inl rfl)
 ·exact(xH h j q s (z (.inr (.inl rfl))) (t (.inr (.inl rfl)))).all (.inr (.inl rfl))
 ·exact(xI h j q s (z (.inr (.inr rfl))) (t (.inr (.inr rfl)))).all (.inr (.inr rfl))

theorem dv {M M':St}(j:az M M')(h:M.wf){f:Int}{e:Edge}{l:Int}(s:bH M f e l):bH M' f e l:=fun q=>nJ j h (s q)

theorem pf {M:St}(h:M.wf){f:Int}{b:Bool}:bH M f (cc f b M.n) M.n:=fun j=>vh h j

theorem zr {M A:St}(q:az M A){roots:List Int}{id:Int}(h:Reaches M.cs roots id):Reaches A.cs roots id:=by
 intro A hS E;refine h A (fun x z t=>?_) (fun x r z t=>?_)
 ·cases j:look M.cs x with
  |none=>exact absurd j t
  |some r=>exact hS x z (by rw[q.sub _ _ j];simp)
 ·have A:=E x r z (q.sub _ _ t);refine⟨fun s=>A.1 ?_,fun s=>A.2 ?_⟩
  ·cases j:look M.cs r.lo.to with
   |none=>exact absurd j s
   |some I=>rw[q.sub _ _ j];simp
  ·cases j:look M.cs r.hi.to with
   |none=>exact absurd j s
   |some I=>rw[q.sub _ _ j];simp

open Go.RowKit Go.Shelf

attribute [local go_sem] Oper.semAt_some

theorem tQ {q s:World}{v u:Value}{j B:Nat}{o:Obj}(t:(q.alloc o).grownBy s v.ownBlock)(K:∀k,v.ownBlock=some k→B≤k)(z:j<B)(A:q.cell? ⟨j,0,none⟩=some u)(E:q.frozen? ⟨j,0,none⟩=false) :
  ae (fun k=>v.ownBlock=some k) q s∧s.cell? ⟨j,0,none⟩=some u∧s.frozen? ⟨j,0,none⟩=false:=by
 have J:ae (fun k=>v.ownBlock=some k) (q.alloc o) s:=⟨t.os,t.tape,t.output,t.size,fun k I z=>t.block k I (fun e=>z e.symm)⟩
 have t:ae (fun k=>v.ownBlock=some k) q s:=((ae.refl _ q).alloc o).a' J
 have z:¬(v.ownBlock=some j):=fun q=>by have:=K _ q;omega
 exact⟨t,t.cellAt z A,(World.frozen?_of_block (a:=⟨j,0,none⟩) (t.block j (aD A) z)).trans E⟩

theorem sL (j:Nat)(w:World):Calls Tryz.prog 165 #[.pointer (some ⟨j,0,none⟩)] w fun e w'=>
  e=.returned (.func (.func 209) #[] #[.pointer (some ⟨w.heap.size,0,none⟩)])∧w'.cell? ⟨w.heap.size,0,none⟩=some (.pointer (some ⟨j,0,none⟩))∧aa w w':=by
 go_enter Tryz.func165,Tryz.ntmps165
 go_wp2
 go_ret
 exact⟨rfl,by simp[go_sem],by(exact kp)⟩

theorem wg (args:Array Value)(w:World):(callFunc 209 args).run Tryz.prog w=.ok (.enter 209 args) w:=enters_of Tryz.func209 (by kernel_rfl) rfl args w

end Go.Proofs.YtafkamlhimkbmaaGreat
