/-
  Plainly: an edge made from below of a table, as a list; the same edge just for the same table.
-/
import Derived.Test.YtafkamlhimkbmaaGreatPHPlainA
import Derived.Test.YtafkamlhimkbmaaGreatPUnfBase
namespace Go.Proofs.YtafkamlhimkbmaaGreat
set_option maxRecDepth 1000000
set_option maxHeartbeats 8000000
set_option linter.unusedSimpArgs false
set_option linter.unusedVariables false
open Go.RowKit

def aj (f:Int)(M:St)(l:Int)(lo hi:Edge):(Edge×Int) ⊕ Rec:=
 if f=5 then bl M l lo hi else if f=3 then ak M 3 l lo hi (aS M l lo hi)else if f=4 then ak M 4 l lo hi (aV M l lo hi)
 else if f=1 then ak M 1 l lo hi (bT M l lo hi)else ak M 2 l lo hi (bX M l lo hi)

theorem eV (M:St)(l:Int)(lo hi:Edge):aj 1 M l lo hi=ak M 1 l lo hi (bT M l lo hi):=rfl

theorem eW (M:St)(l:Int)(lo hi:Edge):aj 2 M l lo hi=ak M 2 l lo hi (bX M l lo hi):=rfl

theorem fL (M:St)(l:Int)(lo hi:Edge):aj 3 M l lo hi=ak M 3 l lo hi (aS M l lo hi):=rfl

theorem fM (M:St)(l:Int)(lo hi:Edge):aj 4 M l lo hi=ak M 4 l lo hi (aV M l lo hi):=rfl

theorem fu (M:St)(l:Int)(lo hi:Edge):aj 5 M l lo hi=bl M l lo hi:=rfl

structure cP (f:Int)(M:St)(l:Int)(lo hi e:Edge):Prop where
 up:aj f M l lo hi=.inl (e,0)∨∃r,aj f M l lo hi=.inr r∧look M.cs e.to=some r∧e.tag=dd f r
 eb:af M f e l=.inl (lo,hi,0)∨∃q,af M f e l=.inr q∧look M.cs lo.to=some q∧lo.tag=0∧hi=(if f=4 then lo else q.hi)
 leads:M.leads f e l=true
 lo:M.leads f lo (l+1)=true
 hi:M.leads f hi (l+1)=true

theorem lj.fb {f:Int}{M:St}{l:Int}{lo hi e:Edge}(h:lj f M l lo hi e)(j:f=3∨f=4∨f=5):cP f M l lo hi e:=by
 refine⟨?_,h.eb,(cu.1 h.right).1,(cu.1 h.lo).1,(cu.1 h.hi).1⟩;have q:=h.up;rcases j with rfl|rfl|rfl<;>exact q

theorem cP.c' {f:Int}{M:St}(K:M.wf){l:Int}{lo hi e q:Edge}(h:cP f M l lo hi e)(t:cP f M l lo hi q):e=q:=by
 rcases h.up with s|⟨r,s,I,z⟩
 ·rcases t.up with j|⟨L,j,_,_⟩;·rw[s]at j;cases j;rfl
  ·rw[s]at j;cases j
 ·rcases t.up with j|⟨L,j,J,A⟩;·rw[s]at j;cases j
  ·rw[s]at j;cases j;have E:e.to=q.to:=K.b2 r e.to q.to I J;cases e;cases q;simp only at E z A;rw[E,z,A]

theorem cP.inj {f:Int}{M:St}(S:M.wf){l:Int}{lo hi q E e:Edge}(h:cP f M l lo hi e)(z:cP f M l q E e):lo=q∧hi=E:=by
 rcases h.eb with s|⟨T,s,L,A,N⟩
 ·rcases z.eb with j|⟨U,j,_⟩;·rw[s]at j;cases j;exact⟨rfl,rfl⟩
  ·rw[s]at j;cases j
 ·rcases z.eb with j|⟨U,j,J,t,K⟩;·rw[s]at j;cases j
  ·rw[s]at j;cases j;have I:lo.to=q.to:=S.b2 T lo.to q.to L J
   have O:lo=q:=by
    cases lo;cases q;simp only at I A t;rw[I,A,t]
   subst O;exact⟨rfl,by rw[N,K]⟩

theorem uz {f:Int}{b b':Bool}{l:Int}(h:bV f b l=bV f b' l):b=b':=by
 have key:∀b:Bool,(bV f b l).to=if b then 1 else 0:=by
  intro b;unfold bV;cases b;·rfl
  ·by_cases j:f=5;·rw[if_pos rfl,if_pos j];rfl
   ·rw[if_pos rfl,if_neg j];rfl
 have:=congrArg Edge.to h;rw[key,key]at this;cases b<;>cases b'<;>first|rfl|(exfalso;revert this;decide)

theorem uA {M:St}(h:M.wf){f:Int}{b:Bool}(E:1≤f∧f≤5):M.leads f (bV f b M.n) M.n=true:=by
 have t:=h.n0;have A:=h.br
 have z:(bV f b M.n).to<2:=by
  unfold bV;split
  ·split;·show(1:Int)<2;omega
   ·show(1:Int)<2;omega
  ·show(0:Int)<2;omega
 refine aU.2 ⟨bj.2 ⟨by omega,by omega,t,A,t,by omega,fun j=>?_,fun q s=>?_⟩,.inl z⟩
 ·unfold bV at j ⊢;split at j
  ·split at j
   ·rename_i q;rcases j with j|j;·exact absurd q j
    ·have t:(1:Int)=0:=j;omega
   ·rw[if_pos (by assumption),if_neg (by assumption)]
  ·rw[if_neg (by assumption)]
 ·unfold bV at s ⊢;split at s
  ·rw[if_pos (by assumption),if_pos q];exact⟨by show M.n≤M.n;omega,by show M.n≤M.n;omega⟩
  ·exact absurd rfl s

def az (f:Int)(M:St):Nat→List Bool→Int→Edge→Prop
 |0,ts,l,e=>∃b,ts=[b]∧e=bV f b l
 |k+1,ts,l,e=>ts.length=2 ^ (k+1)∧∃lo hi,az f M k (ts.take (2 ^ k)) (l+1) lo∧az f M k (ts.drop (2 ^ k)) (l+1) hi∧cP f M l lo hi e

theorem az.length {f:Int}{M:St}:∀{k:Nat} {ts:List Bool} {l:Int} {e:Edge},az f M k ts l e→ts.length=2 ^ k:=by
 intro k ts l e h;cases k with
 |zero=>obtain⟨b,rfl,_⟩:=h;rfl
 |succ k=>exact h.1

theorem az.inj {f:Int}{M:St}(L:M.wf):∀(k:Nat) (ts j:List Bool) (l:Int) (e:Edge),az f M k ts l e→az f M k j l e→ts=j:=by
 intro k;induction k with
 |zero=>
  intro ts j l e h q;obtain⟨b,rfl,s⟩:=h;obtain⟨b',rfl,K⟩:=q;rw[uz (f:=f) (l:=l) (b:=b) (b':=b') (by rw[←s,←K])]
 |succ k t=>
  intro ts j l e h q;obtain⟨_,lo,K,I,s,J⟩:=h;obtain⟨_,N,K,z,A,E⟩:=q;obtain⟨rfl,rfl⟩:=J.inj L E;rw[←List.take_append_drop (2 ^ k) ts,←List.take_append_drop (2 ^ k) j,t _ _ _ _ I z,t _ _ _ _ s A]

theorem az.c' {f:Int}{M:St}(L:M.wf):∀(k:Nat) (ts:List Bool) (l:Int) (e j:Edge),az f M k ts l e→az f M k ts l j→e=j:=by
 intro k;induction k with
 |zero=>
  intro ts l e j h q;obtain⟨b,rfl,s⟩:=h;obtain⟨b',t,I⟩:=q;cases t;rw[s,I]
 |succ k z=>
  intro ts l e j h q;obtain⟨_,lo,j,K,s,t⟩:=h;obtain⟨_,O,N,j,I,J⟩:=q;have A:=z _ _ _ _ K j;have E:=z _ _ _ _ s I;subst A;subst E;exact t.c' L J

theorem az.leads {f:Int}{M:St}(s:M.wf)(j:1≤f∧f≤5){k:Nat}{ts:List Bool}{l:Int}{e:Edge}(h:az f M k ts l e)(q:l+k=M.n):M.leads f e l=true:=by
 cases k with
 |zero=>
  obtain⟨b,_,rfl⟩:=h;have:l=M.n:=by simpa using q
  rw[this];exact uA s j
 |succ k=>obtain⟨_,_,_,_,_,j⟩:=h;exact j.leads

theorem az.I {f:Int}{M:St}(t:M.wf)(j:1≤f∧f≤5){k:Nat}{ts:List Bool}{l:Int}{e:Edge}(h:az f M k ts l e)(q:l+k=M.n){r:Rec}(s:look M.cs e.to=some r):l≤r.I:=
 (dx (h.leads t j q) s).2.1

theorem xH:∀(a b:List Bool),aq (a++b)=(aq a&&aq b):=by
 intro a;induction a with
 |nil=>intro b;rfl
 |cons x a j=>
  intro b;show(!x&&aq (a++b))=((!x&&aq a)&&aq b);rw[j,Bool.and_assoc]

theorem kJ (p:Nat)(ts:List Bool):aq ts=(aq (ts.take p)&&aq (ts.drop p)):=by
 rw[←xH,List.take_append_drop]

theorem iY {j q:List Bool}:aC j q=false↔j≠q:=by
 rw[←Bool.not_eq_true,eo]

theorem pM {M M':St}(j:au M M'){f l:Int}{lo hi:Edge}(q:M.leads f lo (l+1)=true)(s:M.leads f hi (l+1)=true)(z:1≤f∧f≤5):aj f M' l lo hi=aj f M l lo hi:=by
 have a:=j.leads q;have b:=j.leads s;have c:=j.c7 q;have t:f=1∨f=2∨f=3∨f=4∨f=5:=by omega
 rcases t with rfl|rfl|rfl|rfl|rfl
 ·rw[eV,eV];unfold ak bT;rw[j.n,a,b,q,s]
 ·rw[eW,eW];unfold ak bX;rw[j.n,a,b,q,s]
 ·rw[fL,fL];unfold ak aS;rw[j.n,a,b,q,s,c]
 ·rw[fM,fM];unfold ak aV;rw[j.n,a,b,q,s,c]
 ·rw[fu,fu];unfold bl;rw[j.n,a,b,q,s]

theorem cP.ext {f:Int}{M M':St}{l:Int}{lo hi e:Edge}(h:cP f M l lo hi e)(j:au M M')(z:1≤f∧f≤5):cP f M' l lo hi e:=by
 refine⟨?_,?_,j.leads h.leads,j.leads h.lo,j.leads h.hi⟩
 ·rw[pM j h.lo h.hi z];rcases h.up with u|⟨r,q,s,t⟩;·exact .inl u
  ·exact .inr ⟨r,q,j.sub _ _ s,t⟩
 ·rw[rq j h.leads];rcases h.eb with u|⟨r,q,s,t⟩;·exact .inl u
  ·exact .inr ⟨r,q,j.sub _ _ s,t⟩

theorem az.ext {f:Int}{M M':St}(z:au M M')(A:1≤f∧f≤5):∀(k:Nat) (ts:List Bool) (l:Int) (e:Edge),az f M k ts l e→az f M' k ts l e:=by
 intro k;induction k with
 |zero=>intro ts l e h;exact h
 |succ k j=>
  intro ts l e h;obtain⟨E,lo,hi,q,s,t⟩:=h;exact⟨E,lo,hi,j _ _ _ q,j _ _ _ s,t.ext z A⟩

def bE (M:St)(f:Int)(e:Edge)(l:Int):Prop:=f=3∨f=4∨f=5→ba M f e l=true

structure iG (f:Int)(M:St)(l:Int)(lo hi:Edge):Prop where
 hb:bS M (aj f M l lo hi)=0
 fb:cP f (aM M (aj f M l lo hi)) l lo hi (aE f M (aj f M l lo hi))
 ca:de M (aM M (aj f M l lo hi)) 1
 right:bE (aM M (aj f M l lo hi)) f (aE f M (aj f M l lo hi)) l

theorem gY.all {f:Int}{M:St}{l:Int}{lo hi:Edge}(h:gY f M l lo hi)(j:f=3∨f=4∨f=5):iG f M l lo hi:=by
 have e:aj f M l lo hi=cB f M l lo hi:=by rcases j with rfl|rfl|rfl<;>rfl
 refine⟨by rw[e];exact h.hb,by rw[e];exact h.fj.fb j,by rw[e];exact h.ca,fun _=>by rw[e];exact h.fj.right⟩

theorem pN {f:Int}{M:St}{l:Int}{lo hi:Edge}(h:M.wf)(U:f=1∨f=2)(K:0≤l)(T:l<M.n)(z:M.len<M.room)(E:M.leads f lo (l+1)=true)(I:M.leads f hi (l+1)=true)
  (j:aj f M l lo hi=.inr ⟨f,l,l,lo,hi⟩) (t:M.bp ⟨f,l,l,lo,hi⟩=false):iG f M l lo hi:=by
 obtain⟨w1,A,T,q,U,W⟩:=js h t z
 have s:=lR h t z
 have S:=h.br
 have O:=h.n0
 have J:aM M (aj f M l lo hi)=M.a6 ⟨f,l,l,lo,hi⟩:=by rw[j];rfl
 have N:aE f M (aj f M l lo hi)=⟨0,M.bg ⟨f,l,l,lo,hi⟩⟩:=by
  rw[j];unfold aE;rw[if_neg (by omega)];exact dR w1
 have L:(M.a6 ⟨f,l,l,lo,hi⟩).leads f ⟨0,M.bg ⟨f,l,l,lo,hi⟩⟩ l=true:=
  aU.2 ⟨bj.2 ⟨by omega,by omega,by rw[q];exact O,by rw[q];exact S,K,by rw[q];omega,fun _=>rfl,fun O=>by omega⟩,.inr ⟨_,A,rfl,Int.le_refl _,K⟩⟩
 refine⟨by rw[j];exact w1,?_,by rw[J];exact lV h t z,fun K=>by omega⟩
 rw[N,J]
 refine⟨.inr ⟨_,?_,A,by unfold dd;rw[if_neg (by omega)]⟩,?_,L,s.leads E,s.leads I⟩
 ·rw[pM s E I (by omega)];exact j
 ·left;unfold af;rw[if_neg (by rw[q];omega),if_neg (by rw[L];simp),if_neg (by omega)];show(match look (M.a6 ⟨f,l,l,lo,hi⟩).cs (M.bg ⟨f,l,l,lo,hi⟩)with|none=>_|some r=>_)=_;rw[A];show(if l<l then _ else if(f=3∨f=4)∧l≠l then _ else _)=_;rw[if_neg (by omega),if_neg (by omega)]

theorem qu {f:Int}{M:St}{l:Int}{lo hi:Edge}(h:M.wf)(L:f=1∨f=2)(I:0≤l)(K:l<M.n)(q:M.leads f lo (l+1)=true)(A:M.leads f hi (l+1)=true)
  (j:aj f M l lo hi=.inl (lo,0)) (z:aF f l lo=(lo,hi,0)):iG f M l lo hi:=by
 have s:aM M (aj f M l lo hi)=M:=by rw[j];rfl
 have E:aE f M (aj f M l lo hi)=lo:=by
  rw[j];unfold aE;split<;>rfl
 have t:=kx q I (show l≤l+1 by omega)
 refine⟨by rw[j];rfl,?_,by rw[s];exact de.refl h (by omega),fun I=>by omega⟩
 rw[E,s]
 refine⟨.inl j,.inl ?_,t,q,A⟩
 unfold af
 rw[if_neg (by omega),if_neg (by rw[t];simp),if_neg (by omega)]
 cases J:look M.cs lo.to with
 |none=>simp only[];rw[z]
 |some r=>
  obtain⟨j,s,t⟩:=dx q J;simp only[];rw[if_pos (by omega),z]

theorem xg {M:St}(h:M.wf){l:Int}{lo hi:Edge}(s:0≤l)(t:l<M.n)(E:M.len<M.room)(j:M.leads 1 lo (l+1)=true)(q:M.leads 1 hi (l+1)=true):iG 1 M l lo hi:=by
 have A:¬(l<0∨M.n≤l):=by omega
 have z:¬(M.leads 1 lo (l+1)=false∨M.leads 1 hi (l+1)=false):=by rw[j,q];simp
 by_cases c:lo=hi
 ·refine qu h (.inl rfl) s t j q (by rw[eV];unfold ak bT;rw[if_neg A,if_neg z,if_pos c]) ?_;subst c;rfl
 ·exact pN h (.inl rfl) s t E j q (by rw[eV];unfold ak bT;rw[if_neg A,if_neg z,if_neg c]) (iS (f:=1) s t j q (by omega) (fun _ _=>c))

theorem xh {M:St}(h:M.wf){l:Int}{lo hi:Edge}(s:0≤l)(t:l<M.n)(I:M.len<M.room)(q:M.leads 2 lo (l+1)=true)(j:M.leads 2 hi (l+1)=true):iG 2 M l lo hi:=by
 have A:¬(l<0∨M.n≤l):=by omega
 have z:¬(M.leads 2 lo (l+1)=false∨M.leads 2 hi (l+1)=false):=by rw[q,j];simp
 obtain⟨K,L,N,O,S,T,J,U⟩:=bj.1 (aU.1 j).1;by_cases c:hi.to=0
 ·refine qu h (.inr rfl) s t q j (by rw[eW];unfold ak bX;rw[if_neg A,if_neg z,if_pos c]) ?_
  have E:hi=⟨0,0⟩:=by
   have:=J (.inl (by decide));cases hi;simp at this c;rw[this,c]
  rw[E];rfl
 ·exact pN h (.inr rfl) s t I q j (by rw[eW];unfold ak bX;rw[if_neg A,if_neg z,if_neg c]) (iS (f:=2) s t q j (fun _=>c) (by omega))

theorem pE {f:Int}{M:St}(h:M.wf){l:Int}{lo hi:Edge}(J:1≤f∧f≤5)(j:0≤l)(q:l<M.n)(s:M.len<M.room)(A:M.leads f lo (l+1)=true)(E:M.leads f hi (l+1)=true)
  (z:bE M f lo (l+1)) (t:bE M f hi (l+1)):iG f M l lo hi:=by
 have I:f=1∨f=2∨f=3∨f=4∨f=5:=by omega
 rcases I with rfl|rfl|rfl|rfl|rfl
 ·exact xg h j q s A E
 ·exact xh h j q s A E
 ·exact(xi h j q s (z (.inl rfl)) (t (.inl rfl))).all (.inl rfl)
 ·exact(xj h j q s (z (.inr (.inl rfl))) (t (.inr (.inl rfl)))).all (.inr (.inl rfl))
 ·exact(xk h j q s (z (.inr (.inr rfl))) (t (.inr (.inr rfl)))).all (.inr (.inr rfl))

theorem dq {M M':St}(j:au M M')(h:M.wf){f:Int}{e:Edge}{l:Int}(s:bE M f e l):bE M' f e l:=fun q=>mV j h (s q)

theorem oP {M:St}(h:M.wf){f:Int}{b:Bool}:bE M f (bV f b M.n) M.n:=fun j=>uB h j

end Go.Proofs.YtafkamlhimkbmaaGreat
