/-
  Plainly: an edge made from below of a table, as a list; the same edge just for the same table.
-/
import Derived.Test.YtafkamlhimkbmaaGreatPHPlainA
import Derived.Test.YtafkamlhimkbmaaGreatPTermA
namespace Go.Proofs.YtafkamlhimkbmaaGreat
set_option maxRecDepth 1000000
set_option maxHeartbeats 8000000
set_option linter.unusedSimpArgs false
set_option linter.unusedVariables false
open Go.RowKit
def aT (f:Int)(M:St)(l:Int)(lo hi:Edge):(Edge×Int) ⊕ Rec:=
 if f=5 then bR M l lo hi else if f=3 then aC M 3 l lo hi (bk M l lo hi)else if f=4 then aC M 4 l lo hi (bo M l lo hi)
 else if f=1 then aC M 1 l lo hi (cK M l lo hi)else aC M 2 l lo hi (cO M l lo hi)
theorem gN (M:St)(l:Int)(lo hi:Edge):aT 1 M l lo hi=aC M 1 l lo hi (cK M l lo hi):=rfl
theorem gO (M:St)(l:Int)(lo hi:Edge):aT 2 M l lo hi=aC M 2 l lo hi (cO M l lo hi):=rfl
theorem jh (M:St)(l:Int)(lo hi:Edge):aT 3 M l lo hi=aC M 3 l lo hi (bk M l lo hi):=rfl
theorem ji (M:St)(l:Int)(lo hi:Edge):aT 4 M l lo hi=aC M 4 l lo hi (bo M l lo hi):=rfl
theorem iN (M:St)(l:Int)(lo hi:Edge):aT 5 M l lo hi=bR M l lo hi:=rfl
structure dn (f:Int)(M:St)(l:Int)(lo hi e:Edge):Prop where
 up:aT f M l lo hi=.inl (e,0)∨∃r,aT f M l lo hi=.inr r∧look M.cs e.to=some r∧e.tag=ek f r
 e8:ao M f e l=.inl (lo,hi,0)∨∃q,ao M f e l=.inr q∧look M.cs lo.to=some q∧lo.tag=0∧hi=(if f=4 then lo else q.hi)
 leads:M.leads f e l=true
 lo:M.leads f lo (l+1)=true
 hi:M.leads f hi (l+1)=true
theorem lf.ee {f:Int}{M:St}{l:Int}{lo hi e:Edge}(h:lf f M l lo hi e)(s:f=3∨f=4∨f=5):dn f M l lo hi e:=by
 refine⟨?_,h.e8,(dd.1 h.right).1,(dd.1 h.lo).1,(dd.1 h.hi).1⟩;have t:=h.up;rcases s with rfl|rfl|rfl<;>exact t
theorem dn.cD {f:Int}{M:St}(J:M.wf){l:Int}{lo hi e e':Edge}(h:dn f M l lo hi e)(h':dn f M l lo hi e'):e=e':=by
 rcases h.up with t|⟨r,t,E,u⟩
 ·rcases h'.up with s|⟨N,s,_,_⟩;·rw[t]at s;cases s;rfl
  ·rw[t]at s;cases s
 ·rcases h'.up with s|⟨N,s,I,z⟩;·rw[t]at s;cases s
  ·rw[t]at s;cases s;have D:e.to=e'.to:=J.b5 r e.to e'.to E I;cases e;cases e';simp only at D u z;rw[D,u,z]
theorem dn.inj {f:Int}{M:St}(O:M.wf){l:Int}{lo hi lo' hi' e:Edge}(h:dn f M l lo hi e)(h':dn f M l lo' hi' e):lo=lo'∧hi=hi':=by
 rcases h.e8 with s|⟨q,s,I,u,J⟩
 ·rcases h'.e8 with g1|⟨Q,g1,_⟩;·rw[s]at g1;cases g1;exact⟨rfl,rfl⟩
  ·rw[s]at g1;cases g1
 ·rcases h'.e8 with g1|⟨Q,g1,D,t,E⟩;·rw[s]at g1;cases g1
  ·rw[s]at g1;cases g1;have z:lo.to=lo'.to:=O.b5 q lo.to lo'.to I D
   have N:lo=lo':=by
    cases lo;cases lo';simp only at z u t;rw[z,u,t]
   subst N;exact⟨rfl,by rw[J,E]⟩
theorem tr {f:Int}{b b':Bool}{l:Int}(h:bI f b l=bI f b' l):b=b':=by
 have key:∀b:Bool,(bI f b l).to=if b then 1 else 0:=by
  intro b;unfold bI;cases b;·rfl
  ·by_cases s:f=5;·rw[ai rfl,ai s];rfl
   ·rw[ai rfl,ag s];rfl
 have:=congrArg Edge.to h;rw[key,key]at this;cases b<;>cases b'<;>first|rfl|(exfalso;revert this;decide)
theorem tt {M:St}(h:M.wf){f:Int}{b:Bool}(I:1≤f∧f≤5):M.leads f (bI f b M.n) M.n=true:=by
 have z:=h.n0;have E:=h.b0
 have D:(bI f b M.n).to<2:=by
  unfold bI;split
  ·split;·show(1:Int)<2;omega
   ·show(1:Int)<2;omega
  ·show(0:Int)<2;omega
 refine bf.2 ⟨bK.2 ⟨by omega,by omega,z,E,z,by omega,fun s=>?_,fun t u=>?_⟩,.inl D⟩
 ·unfold bI at s ⊢;split at s
  ·split at s
   ·rename_i t;rcases s with s|s;·exact absurd t s
    ·have z:(1:Int)=0:=s;omega
   ·rw[ai (by assumption),ag (by assumption)]
  ·rw[ag (by assumption)]
 ·unfold bI at u ⊢;split at u
  ·rw[ai (by assumption),ai t];exact⟨by show M.n≤M.n;omega,by show M.n≤M.n;omega⟩
  ·exact absurd rfl u
def aN (f:Int)(M:St):Nat→List Bool→Int→Edge→Prop
 |0,ts,l,e=>∃b,ts=[b]∧e=bI f b l
 |k+1,ts,l,e=>ts.length=2 ^ (k+1)∧∃lo hi,aN f M k (ts.take (2 ^ k)) (l+1) lo∧aN f M k (ts.drop (2 ^ k)) (l+1) hi∧dn f M l lo hi e
theorem aN.length {f:Int}{M:St}:∀{k:Nat} {ts:List Bool} {l:Int} {e:Edge},aN f M k ts l e→ts.length=2 ^ k:=by
 intro k ts l e h;cases k with
 |zero=>obtain⟨b,rfl,_⟩:=h;rfl
 |succ k=>exact h.1
theorem aN.inj {f:Int}{M:St}(N:M.wf):∀(k:Nat) (ts s:List Bool) (l:Int) (e:Edge),aN f M k ts l e→aN f M k s l e→ts=s:=by
 intro k;induction k with
 |zero=>
  intro ts s l e h h';obtain⟨b,rfl,t⟩:=h;obtain⟨b',rfl,J⟩:=h';rw[tr (f:=f) (l:=l) (b:=b) (b':=b') (by rw[←t,←J])]
 |succ k u=>
  intro ts s l e h h';obtain⟨_,lo,J,E,t,I⟩:=h;obtain⟨_,lo',J,g1,z,D⟩:=h';obtain⟨rfl,rfl⟩:=I.inj N D;rw[←List.take_append_drop (2 ^ k) ts,←List.take_append_drop (2 ^ k) s,u _ _ _ _ E g1,u _ _ _ _ t z]
theorem aN.cD {f:Int}{M:St}(N:M.wf):∀(k:Nat) (ts:List Bool) (l:Int) (e e':Edge),aN f M k ts l e→aN f M k ts l e'→e=e':=by
 intro k;induction k with
 |zero=>
  intro ts l e e' h h';obtain⟨b,rfl,s⟩:=h;obtain⟨b',t,E⟩:=h';cases t;rw[s,E]
 |succ k u=>
  intro ts l e e' h h';obtain⟨_,lo,E,J,s,t⟩:=h;obtain⟨_,lo',O,g1,E,I⟩:=h';have z:=u _ _ _ _ J g1;have D:=u _ _ _ _ s E;subst z;subst D;exact t.cD N I
theorem aN.leads {f:Int}{M:St}(u:M.wf)(s:1≤f∧f≤5){k:Nat}{ts:List Bool}{l:Int}{e:Edge}(h:aN f M k ts l e)(t:l+k=M.n):M.leads f e l=true:=by
 cases k with
 |zero=>
  obtain⟨b,_,rfl⟩:=h;have:l=M.n:=by simpa using t
  rw[this];exact tt u s
 |succ k=>obtain⟨_,_,_,_,_,s⟩:=h;exact s.leads
theorem aN.top {f:Int}{M:St}(z:M.wf)(s:1≤f∧f≤5){k:Nat}{ts:List Bool}{l:Int}{e:Edge}(h:aN f M k ts l e)(t:l+k=M.n){r:Rec}(u:look M.cs e.to=some r):l≤r.top:=
 (dQ (h.leads z s t) u).2.1
theorem wD:∀(a b:List Bool),bm (a++b)=(bm a&&bm b):=by
 intro a;induction a with
 |nil=>intro b;rfl
 |cons x a s=>
  intro b;show(!x&&bm (a++b))=((!x&&bm a)&&bm b);rw[s,Bool.and_assoc]
theorem kG (p:Nat)(ts:List Bool):bm ts=(bm (ts.take p)&&bm (ts.drop p)):=by
 rw[←wD,List.take_append_drop]
theorem jq {s t:List Bool}:bD s t=false↔s≠t:=by
 rw[←Bool.not_eq_true,eX]
theorem oK {M M':St}(s:aP M M'){f l:Int}{lo hi:Edge}(t:M.leads f lo (l+1)=true)(u:M.leads f hi (l+1)=true)(D:1≤f∧f≤5):aT f M' l lo hi=aT f M l lo hi:=by
 have a:=s.leads t;have b:=s.leads u;have c:=s.ds t;have z:f=1∨f=2∨f=3∨f=4∨f=5:=by omega
 rcases z with rfl|rfl|rfl|rfl|rfl
 ·rw[gN,gN];unfold aC cK;rw[s.n,a,b,t,u]
 ·rw[gO,gO];unfold aC cO;rw[s.n,a,b,t,u]
 ·rw[jh,jh];unfold aC bk;rw[s.n,a,b,t,u,c]
 ·rw[ji,ji];unfold aC bo;rw[s.n,a,b,t,u,c]
 ·rw[iN,iN];unfold bR;rw[s.n,a,b,t,u]
theorem dn.ext {f:Int}{M M':St}{l:Int}{lo hi e:Edge}(h:dn f M l lo hi e)(s:aP M M')(E:1≤f∧f≤5):dn f M' l lo hi e:=by
 refine⟨?_,?_,s.leads h.leads,s.leads h.lo,s.leads h.hi⟩
 ·rw[oK s h.lo h.hi E];rcases h.up with t|⟨r,u,z,D⟩;·exact .inl t
  ·exact .inr ⟨r,u,s.sub _ _ z,D⟩
 ·rw[Ab s h.leads];rcases h.e8 with t|⟨r,u,z,D⟩;·exact .inl t
  ·exact .inr ⟨r,u,s.sub _ _ z,D⟩
theorem aN.ext {f:Int}{M M':St}(D:aP M M')(E:1≤f∧f≤5):∀(k:Nat) (ts:List Bool) (l:Int) (e:Edge),aN f M k ts l e→aN f M' k ts l e:=by
 intro k;induction k with
 |zero=>intro ts l e h;exact h
 |succ k s=>
  intro ts l e h;obtain⟨I,lo,hi,t,u,z⟩:=h;exact⟨I,lo,hi,s _ _ _ t,s _ _ _ u,z.ext D E⟩
def gp (M:St)(f:Int)(e:Edge)(l:Int):Prop:=f=3∨f=4∨f=5→cW M f e l=true
structure iW (f:Int)(M:St)(l:Int)(lo hi:Edge):Prop where
 gy:fB M (aT f M l lo hi)=0
 ee:dn f (bT M (aT f M l lo hi)) l lo hi (bS f M (aT f M l lo hi))
 c':du M (bT M (aT f M l lo hi)) 1
 right:gp (bT M (aT f M l lo hi)) f (bS f M (aT f M l lo hi)) l
theorem iA.all {f:Int}{M:St}{l:Int}{lo hi:Edge}(h:iA f M l lo hi)(s:f=3∨f=4∨f=5):iW f M l lo hi:=by
 have e:aT f M l lo hi=cN f M l lo hi:=by rcases s with rfl|rfl|rfl<;>rfl
 refine⟨by rw[e];exact h.gy,by rw[e];exact h.fX.ee s,by rw[e];exact h.c',fun _=>by rw[e];exact h.fX.right⟩
theorem oS {f:Int}{M:St}{l:Int}{lo hi:Edge}(h:M.wf)(V:f=1∨f=2)(h0:0≤l)(U:l<M.n)(z:M.len<M.a7)(E:M.leads f lo (l+1)=true)(I:M.leads f hi (l+1)=true)
  (hm:aT f M l lo hi=.inr ⟨f,l,l,lo,hi⟩) (u:M.b2 ⟨f,l,l,lo,hi⟩=false):iW f M l lo hi:=by
 obtain⟨w1,D,U,s,V,W⟩:=jJ h u z
 have t:=lM h u z
 have T:=h.b0
 have Q:=h.n0
 have J:bT M (aT f M l lo hi)=M.ba ⟨f,l,l,lo,hi⟩:=by rw[hm];rfl
 have O:bS f M (aT f M l lo hi)=⟨0,M.bs ⟨f,l,l,lo,hi⟩⟩:=by
  rw[hm];unfold bS;rw[ag (by omega)];exact iG w1
 have N:(M.ba ⟨f,l,l,lo,hi⟩).leads f ⟨0,M.bs ⟨f,l,l,lo,hi⟩⟩ l=true:=
  bf.2 ⟨bK.2 ⟨by omega,by omega,by rw[s];exact Q,by rw[s];exact T,h0,by rw[s];omega,fun _=>rfl,fun Q=>by omega⟩,.inr ⟨_,D,rfl,Int.le_refl _,h0⟩⟩
 refine⟨by rw[hm];exact w1,?_,by rw[J];exact lQ h u z,fun Q=>by omega⟩
 rw[O,J]
 refine⟨.inr ⟨_,?_,D,by unfold ek;rw[ag (by omega)]⟩,?_,N,t.leads E,t.leads I⟩
 ·rw[oK t E I (by omega)];exact hm
 ·left;unfold ao;rw[ag (by rw[s];omega),ag (by rw[N];simp),ag (by omega)];show(match look (M.ba ⟨f,l,l,lo,hi⟩).cs (M.bs ⟨f,l,l,lo,hi⟩)with|none=>_|some r=>_)=_;rw[D];show(if l<l then _ else if(f=3∨f=4)∧l≠l then _ else _)=_;rw[ag (by omega),ag (by omega)]
theorem pH {f:Int}{M:St}{l:Int}{lo hi:Edge}(h:M.wf)(N:f=1∨f=2)(h0:0≤l)(J:l<M.n)(s:M.leads f lo (l+1)=true)(D:M.leads f hi (l+1)=true)
  (hm:aT f M l lo hi=.inl (lo,0)) (z:aZ f l lo=(lo,hi,0)):iW f M l lo hi:=by
 have t:bT M (aT f M l lo hi)=M:=by rw[hm];rfl
 have E:bS f M (aT f M l lo hi)=lo:=by
  rw[hm];unfold bS;split<;>rfl
 have u:=kx s h0 (show l≤l+1 by omega)
 refine⟨by rw[hm];rfl,?_,by rw[t];exact du.refl h (by omega),fun J=>by omega⟩
 rw[E,t]
 refine⟨.inl hm,.inl ?_,u,s,D⟩
 unfold ao
 rw[ag (by omega),ag (by rw[u];simp),ag (by omega)]
 cases I:look M.cs lo.to with
 |none=>simp only[];rw[z]
 |some r=>
  obtain⟨t,u,D⟩:=dQ s I;simp only[];rw[ai (by omega),z]
theorem vw {M:St}(h:M.wf){l:Int}{lo hi:Edge}(h0:0≤l)(u:l<M.n)(E:M.len<M.a7)(s:M.leads 1 lo (l+1)=true)(t:M.leads 1 hi (l+1)=true):iW 1 M l lo hi:=by
 have D:¬(l<0∨M.n≤l):=by omega
 have z:¬(M.leads 1 lo (l+1)=false∨M.leads 1 hi (l+1)=false):=by rw[s,t];simp
 by_cases c:lo=hi
 ·refine pH h (.inl rfl) h0 u s t (by rw[gN];unfold aC cK;rw[ag D,ag z,ai c]) ?_;subst c;rfl
 ·exact oS h (.inl rfl) h0 u E s t (by rw[gN];unfold aC cK;rw[ag D,ag z,ag c]) (jk (f:=1) h0 u s t (by omega) (fun _ _=>c))
theorem vx {M:St}(h:M.wf){l:Int}{lo hi:Edge}(h0:0≤l)(u:l<M.n)(I:M.len<M.a7)(t:M.leads 2 lo (l+1)=true)(s:M.leads 2 hi (l+1)=true):iW 2 M l lo hi:=by
 have D:¬(l<0∨M.n≤l):=by omega
 have z:¬(M.leads 2 lo (l+1)=false∨M.leads 2 hi (l+1)=false):=by rw[t,s];simp
 obtain⟨N,O,Q,T,U,V,J,W⟩:=bK.1 (bf.1 s).1;by_cases c:hi.to=0
 ·refine pH h (.inr rfl) h0 u t s (by rw[gO];unfold aC cO;rw[ag D,ag z,ai c]) ?_
  have E:hi=⟨0,0⟩:=by
   have:=J (.inl (by decide));cases hi;simp at this c;rw[this,c]
  rw[E];rfl
 ·exact oS h (.inr rfl) h0 u I t s (by rw[gO];unfold aC cO;rw[ag D,ag z,ag c]) (jk (f:=2) h0 u t s (fun _=>c) (by omega))
theorem oJ {f:Int}{M:St}(h:M.wf){l:Int}{lo hi:Edge}(J:1≤f∧f≤5)(h0:0≤l)(s:l<M.n)(t:M.len<M.a7)(D:M.leads f lo (l+1)=true)(E:M.leads f hi (l+1)=true)
  (z:gp M f lo (l+1)) (u:gp M f hi (l+1)):iW f M l lo hi:=by
 have I:f=1∨f=2∨f=3∨f=4∨f=5:=by omega
 rcases I with rfl|rfl|rfl|rfl|rfl
 ·exact vw h h0 s t D E
 ·exact vx h h0 s t D E
 ·exact(vy h h0 s t (z (.inl rfl)) (u (.inl rfl))).all (.inl rfl)
 ·exact(vz h h0 s t (z (.inr (.inl rfl))) (u (.inr (.inl rfl)))).all (.inr (.inl rfl))
 ·exact(vA h h0 s t (z (.inr (.inr rfl))) (u (.inr (.inr rfl)))).all (.inr (.inr rfl))
theorem pD {M M':St}(s:aP M M')(h:M.wf){f:Int}{e:Edge}{l:Int}(u:gp M f e l):gp M' f e l:=fun t=>mE s h (u t)
theorem nI {M:St}(h:M.wf){f:Int}{b:Bool}:gp M f (bI f b M.n) M.n:=fun s=>tu h s
end Go.Proofs.YtafkamlhimkbmaaGreat
