/-
  Plainly: what Make of any two edges that lead means; what a step of swap tells.
-/
import Derived.Test.YtafkamlhimkbmaaGreatPMeansA
namespace Go.Proofs.YtafkamlhimkbmaaGreat
set_option maxRecDepth 1000000
set_option maxHeartbeats 8000000
set_option linter.unusedSimpArgs false
set_option linter.unusedVariables false

def St.cg (M:St):Prop:=M.gone=[]∧∀o∈M.cs,o≠none

theorem qE {M:St}(h:M.cg)(r:Rec):(M.a6 r).cg:=by
 unfold St.a6;cases M.b3 r with
 |some id=>exact h
 |none=>
  simp only[];split;·exact h
  ·split;·exact h
   ·refine⟨by show M.gone.dropLast=[];rw[h.1];rfl,fun o j=>?_⟩;change o∈cT M.cs M.gone r at j;unfold cT at j;rw[h.1]at j;simp only[List.getLast?_nil]at j;rcases List.mem_append.1 j with j|j;·exact h.2 o j
    ·rw[List.mem_singleton]at j;subst j;simp

theorem kX {M:St}(h:M.cg)(a:(Edge×Int) ⊕ Rec):(aM M a).cg:=by
 cases a with
 |inl x=>exact h
 |inr r=>exact qE h r

theorem Ag {M:St}(h:M.cg)(a:(Edge×Edge×Int) ⊕ Rec):(bN M a).cg:=by
 cases a with
 |inl x=>exact h
 |inr r=>exact qE h r

structure gX (f:Int)(M:St)(l:Int)(lo hi:Edge)(M':St)(e:Edge):Prop where
 ext:au M M'
 wf:M'.wf
 len:M'.len≤M.len+1
 room:M'.room=M.room
 lead:M'.leads f e l=true
 cx:∀x,tv M' f x l e=tv M f x (l+1) (if an x l then hi else lo)

theorem rj {M:St}{f x l:Int}{e:Edge}(s:M.leads f e (l+1)=true)(t:e.to≠0)(j:l<M.n):tv M f x l e=(if cL f e l&&an x l then false else tv M f x (l+1) e):=by
 refine iz t j ?_;cases q:look M.cs e.to with
 |none=>exact .inl rfl
 |some r=>
  obtain⟨j,t,z⟩:=dx s q;exact .inr ⟨r,rfl,by omega⟩

theorem jD {f:Int}{M:St}(h:M.wf){l:Int}{lo hi:Edge}(q:0≤l)(t:l<M.n)(j:M.leads f lo (l+1)=true)(s:∀x,tv M f x l lo=tv M f x (l+1) (if an x l then hi else lo)):gX f M l lo hi M lo:=
 ⟨au.refl M,h,by omega,rfl,kx j q (by omega),s⟩

theorem tM (x l:Int):fh x l (l+1-l).toNat=!an x l:=by
 rw[show(l+1-l).toNat=1 by omega];show(!an x l&&true)=_;rw[Bool.and_true]

theorem zT {x f l:Int}{lo hi:Edge}:bF x ⟨f,l,l,lo,hi⟩=if an x l then hi else lo:=by
 unfold bF ez;simp only[];by_cases j:f=3;·rw[if_pos j,tM,Bool.not_not]
 ·rw[if_neg j]

theorem mr {f:Int}{M:St}(h:M.wf){l:Int}{lo hi:Edge}(S:0≤l)(s:l<M.n)(I:1≤f∧f≤5){r:Rec}(J:r.ad=f)(K:r.I=l)(E:M.bp r=false)
  (T:∀(M':St) x,au M M'→M'.wf→tv M' f x (r.J+1) (bF x r)=tv M' f x (l+1) (if an x l then hi else lo)) (N:M.leads f lo (l+1)=true) (O:M.leads f hi (l+1)=true) :
  (M.a7 r=0∧gX f M l lo hi (M.a6 r) (aE f M (.inr r)))∨(M.a7 r=6∧M.a6 r=M∧aE f M (.inr r)=⟨0,0⟩∧M.room≤M.len):=by
 by_cases j:M.a7 r=0
 ·left;obtain⟨L,t,z,s,U,W⟩:=iK h E j;have s:=t.n;have s:=h.n0;have s:=h.br
  have A:aE f M (.inr r)=⟨if f=5 then l else 0,M.bg r⟩:=by
   unfold aE;by_cases s:f=5
   ·rw[if_pos s,if_pos s];show aX M r.I r=_;rw[dR j,K]
   ·rw[if_neg s,if_neg s];show aX M 0 r=_;rw[dR j]
  refine⟨j,t,z,U,W,?_,fun x=>?_⟩
  ·rw[A];refine aU.2 ⟨bj.2 ⟨I.1,I.2,by omega,by omega,S,by omega,fun q=>?_,fun q _=>?_⟩,.inr ⟨r,L,J,by omega,?_⟩⟩
   ·rcases q with q|q
    ·show(if f=5 then l else 0)=0;rw[if_neg q]
    ·exfalso;change M.bg r=0 at q;omega
   ·show l≤(if f=5 then l else 0)∧(if f=5 then l else 0)≤_;rw[if_pos q];omega
   ·show(if f=5 then l else 0)≤r.I;split<;>omega
  ·rw[A];rw[jb z (by omega) (show look (M.a6 r).cs _=some r from L) J (by omega) K,T _ x t z];refine dA h t (aW.of ?_);split;·exact O
   ·exact N
 ·right;obtain⟨q,s,t⟩:=kh E j;refine⟨q,s,?_,t⟩;unfold aE;split;·exact iL j
  ·exact iL j

def gD (f:Int)(M:St)(l:Int)(lo hi:Edge):Prop:=
 (bS M (aj f M l lo hi)=0∧gX f M l lo hi (aM M (aj f M l lo hi)) (aE f M (aj f M l lo hi))) ∨
 (bS M (aj f M l lo hi)=6∧aM M (aj f M l lo hi)=M∧aE f M (aj f M l lo hi)=⟨0,0⟩∧M.room≤M.len)

theorem iN {f:Int}{M:St}{l:Int}{lo hi e:Edge}(s:aj f M l lo hi=.inl (e,0))(q:gX f M l lo hi M e):gD f M l lo hi:=by
 unfold gD;rw[s];have j:aE f M (.inl (e,0))=e:=by unfold aE;split<;>rfl
 rw[j];exact .inl ⟨rfl,q⟩

theorem mq {f:Int}{M:St}{l:Int}{lo hi:Edge}{r:Rec}(q:aj f M l lo hi=.inr r)
  (j:(M.a7 r=0∧gX f M l lo hi (M.a6 r) (aE f M (.inr r)))∨(M.a7 r=6∧M.a6 r=M∧aE f M (.inr r)=⟨0,0⟩∧M.room≤M.len)):gD f M l lo hi:=by
 unfold gD
 rw[q]
 exact j

theorem jC {f:Int}{M:St}(h:M.wf){l:Int}{lo hi:Edge}(s:0≤l)(t:l<M.n)(A:1≤f∧f≤5)(j:M.leads f lo (l+1)=true)(q:M.leads f hi (l+1)=true)
  (E:aj f M l lo hi=.inr ⟨f,l,l,lo,hi⟩) (I:f=2∨f=4→hi.to≠0) (z:f≠2→f≠4→lo≠hi):gD f M l lo hi:=
 mq E (mr h s t A rfl rfl (iS s t j q I z) (fun M' x _ _=>by rw[zT]) j q)

theorem oN {M:St}{f l:Int}{e:Edge}(q:M.leads f e l=true)(j:e.to=0):e=⟨0,0⟩:=by
 have:=(bj.1 (aU.1 q).1).2.2.2.2.2.2.1 (.inr j);cases e;simp only at j this;rw[j,this]

theorem iO {f:Int}{M:St}(h:M.wf){l:Int}{lo hi:Edge}(N:1≤f∧f≤5)(t:0≤l)(z:l<M.n)(j:M.leads f lo (l+1)=true)(K:M.leads f hi (l+1)=true):gD f M l lo hi:=by
 have J:¬(l<0∨M.n≤l):=by omega
 have I:∀g:Int,g=f→¬(M.leads g lo (l+1)=false∨M.leads g hi (l+1)=false):=fun g be=>by rw[be,j,K];simp
 have bb:f=1∨f=2∨f=3∨f=4∨f=5:=by omega
 -- the same halves, or the upper one to nothing
 have same:lo=hi→(∀e:Edge,M.leads f e (l+1)=true→e.to≠0→cL f e l=false)→∀x,tv M f x l lo=tv M f x (l+1) (if an x l then hi else lo):=fun ab aw x=>by
  subst ab;rw[ite_self];by_cases A:lo.to=0;·rw[dt A,dt A]
  ·rw[rj j A z,aw lo j A,Bool.false_and];rfl
 have a8:hi.to=0→(∀e:Edge,cL f e l=true)→∀x,tv M f x l lo=tv M f x (l+1) (if an x l then hi else lo):=fun A aw x=>by
  by_cases av:lo.to=0
  ·rw[dt av];split;·rw[dt A]
   ·rw[dt av]
  ·rw[rj j av z,aw lo,Bool.true_and];split;·rw[dt A]
   ·rfl
 rcases bb with rfl|rfl|rfl|rfl|rfl
 ·by_cases c:lo=hi;·exact iN (by rw[eV];unfold ak bT;rw[if_neg J,if_neg (I _ rfl),if_pos c]) (jD h t z j (same c (fun _ _ _=>rfl)))
  ·exact jC h t z N j K (by rw[eV];unfold ak bT;rw[if_neg J,if_neg (I _ rfl),if_neg c]) (by omega) (fun _ _=>c)
 ·by_cases c:hi.to=0;·exact iN (by rw[eW];unfold ak bX;rw[if_neg J,if_neg (I _ rfl),if_pos c]) (jD h t z j (a8 c (fun _=>rfl)))
  ·exact jC h t z N j K (by rw[eW];unfold ak bX;rw[if_neg J,if_neg (I _ rfl),if_neg c]) (fun _=>c) (by omega)
 ·by_cases c:lo=hi;·exact iN (by rw[fL];unfold ak aS;rw[if_neg J,if_neg (I _ rfl),if_pos c]) (jD h t z j (same c (fun _ _ _=>rfl)))
  ·have U:aj 3 M l lo hi=aS M l lo hi:=(by rw[fL];unfold ak;rw[if_neg J,if_neg (I _ rfl)]);have node:aS M l lo hi=.inr ⟨3,l,l,lo,hi⟩→gD 3 M l lo hi:=fun Z=>jC h t z N j K (U.trans Z) (by omega) (fun _ _=>c);cases q:look M.cs lo.to with
   |none=>exact node (by unfold aS;rw[if_neg c,q])
   |some r=>
    by_cases E:r.I=l+1
    ·by_cases s:r.hi=hi
     ·obtain⟨L,a3,a4⟩:=dx j q;have g:=h.b7 q;have gt:=g.tb;have a':=g.bn;have a5:=g.hi;rw[L]at a5;have a6:=jZ h q L (.inl rfl) t E;rw[s]at a6;refine mq (U.trans (by unfold aS;rw[if_neg c,q];simp only[];rw[if_pos E,if_pos s])) (mr h t z N rfl rfl a6 (fun M' x S W=>?_) j K);have ad:=S.sub _ _ q;have bn:=S.n
      have am:bF x ⟨3,l,r.J,r.lo,hi⟩=if an x l then hi else bF x r:=by
       unfold bF ez;simp only[];rw[if_pos L,if_pos trivial,show(r.J+1-l).toNat=(r.J+1-r.I).toNat+1 by omega];show(if !(!an x l&&fh x (l+1) (r.J+1-r.I).toNat)then hi else r.lo)=_;rw[E,s];cases an x l with
       |true=>rfl
       |false=>rfl
      show tv M' 3 x (r.J+1) (bF x ⟨3,l,r.J,r.lo,hi⟩)=_;rw[am];cases av:an x l with
      |true=>
       rw[if_pos rfl,if_pos rfl];have br:M'.leads 3 hi (r.J+1)=true:=(by rw[←s];exact S.leads a5);refine(ri rfl (by omega) ?_ (r.J+1-(l+1)).toNat (l+1) (by omega)).symm;rcases(aW.of br).2 with av|⟨aw,X,Y,a1⟩;·exact .inl av
       ·exact .inr ⟨aw,X,a1⟩
      |false=>
       rw[if_neg (by simp),if_neg (by simp)];exact(jb W (by omega) ad L (by omega) E).symm
     ·exact node (by unfold aS;rw[if_neg c,q];simp only[];rw[if_pos E,if_neg s])
    ·exact node (by unfold aS;rw[if_neg c,q];simp only[];rw[if_neg E])
 ·by_cases c:hi.to=0;·exact iN (by rw[fM];unfold ak aV;rw[if_neg J,if_neg (I _ rfl),if_pos c]) (jD h t z j (a8 c (fun _=>rfl)))
  ·have U:aj 4 M l lo hi=aV M l lo hi:=(by rw[fM];unfold ak;rw[if_neg J,if_neg (I _ rfl)]);have node:aV M l lo hi=.inr ⟨4,l,l,lo,hi⟩→gD 4 M l lo hi:=fun Z=>jC h t z N j K (U.trans Z) (fun _=>c) (by omega);cases q:look M.cs lo.to with
   |none=>exact node (by unfold aV;rw[if_neg c,q])
   |some r=>
    by_cases E:lo=hi
    ·by_cases s:r.I=l+1
     ·obtain⟨L,a3,a4⟩:=dx j q;have g:=h.b7 q;have gt:=g.tb;have a':=g.bn;refine mq (U.trans (by unfold aV;rw[if_neg c,q];simp only[];rw[if_pos E,if_pos s])) (mr h t z N rfl rfl (jZ h q L (.inr rfl) t s) (fun M' x S W=>?_) j K);have ad:=S.sub _ _ q;have bn:=S.n
      have am:bF x ⟨4,l,r.J,r.lo,r.hi⟩=bF x r:=by
       unfold bF ez;simp[show¬r.ad=3 by omega]
      show tv M' 4 x (r.J+1) (bF x ⟨4,l,r.J,r.lo,r.hi⟩)=_;rw[am,←E,ite_self];exact(jb W (by omega) ad L (by omega) s).symm
     ·exact node (by unfold aV;rw[if_neg c,q];simp only[];rw[if_pos E,if_neg s])
    ·exact node (by unfold aV;rw[if_neg c,q];simp only[];rw[if_neg E])
 ·by_cases c:lo=hi
  ·refine iN (by rw[fu];unfold bl;rw[if_neg J,if_neg (I _ rfl),if_pos c]) (jD h t z j (same c (fun e ab A=>?_)));have:=(bj.1 (aU.1 ab).1).2.2.2.2.2.2.2 rfl A;unfold cL;simp;omega
  ·by_cases s:hi.to=0∧lo.tag=l+1
   ·obtain⟨s,a2⟩:=s;have A:lo.to≠0:=fun O=>c (by rw[oN j O,oN K s]);obtain⟨bp,T⟩:=aU.1 j;obtain⟨E,S,U,Z,ab,ad,am,av⟩:=bj.1 bp
    have bi:M.leads 5 ⟨l,lo.to⟩ l=true:=by
     refine aU.2 ⟨bj.2 ⟨E,S,U,Z,t,by omega,fun O=>?_,fun _ _=>⟨Int.le_refl _,by show l≤M.n;omega⟩⟩,?_⟩
     ·rcases O with O|O;·exact absurd rfl O
      ·exact absurd O A
     ·rcases T with T|⟨r,X,Y,a1,bt⟩;·exact .inl T
      ·exact .inr ⟨r,X,Y,by omega,by show l≤r.I;omega⟩
    refine iN (e:=⟨l,lo.to⟩) (by rw[fu];unfold bl;rw[if_neg J,if_neg (I _ rfl),if_neg c,if_pos ⟨s,a2⟩]) ⟨au.refl M,h,by omega,rfl,bi,fun x=>?_⟩
    have bq:look M.cs (⟨l,lo.to⟩:Edge).to=none∨∃r,look M.cs (⟨l,lo.to⟩:Edge).to=some r∧l<r.I:=by
     show look M.cs lo.to=none∨∃r,look M.cs lo.to=some r∧l<r.I;cases q:look M.cs lo.to with
     |none=>exact .inl rfl
     |some r=>obtain⟨L,a3,a4⟩:=dx j q;exact .inr ⟨r,rfl,by omega⟩
    have bs:cL 5 ⟨l,lo.to⟩ l=true:=by unfold cL;simp
    have W:aW M 5 (l+1) ⟨l,lo.to⟩:=by
     refine⟨by omega,?_⟩;show lo.to<2∨_;rcases T with T|⟨r,X,Y,a1,bt⟩;·exact .inl T
     ·exact .inr ⟨r,X,Y,by omega⟩
    rw[iz (e:=⟨l,lo.to⟩) A z bq,bs,Bool.true_and];cases an x l with
    |true=>rw[if_pos rfl,if_pos rfl,dt s]
    |false=>
     rw[if_neg (by simp),if_neg (by simp)];refine rk W rfl (fun a7 bg=>?_);unfold cL;simp only[a2];have q:decide (l≤a7)=true:=decide_eq_true (by omega);have A:decide (l+1≤a7)=true:=decide_eq_true bg;rw[q,A]
   ·exact jC h t z N j K (by rw[fu];unfold bl;rw[if_neg J,if_neg (I _ rfl),if_neg c,if_neg s]) (by omega) (fun _ _=>c)

theorem kA {f:Int}{M:St}(h:M.wf){l:Int}{lo hi:Edge}(E:1≤f∧f≤5)(t:0≤l)(z:l<M.n)(J:M.len<1048576)(q:M.leads f lo (l+1)=true)(s:M.leads f hi (l+1)=true)
  (A:bS M (aj f M l lo hi)=0) (K:bE M f lo (l+1)) (I:bE M f hi (l+1)):bE (aM M (aj f M l lo hi)) f (aE f M (aj f M l lo hi)) l:=by
 rcases xe h E t z J q s K I with⟨_,_,_,q⟩|⟨j,_⟩
 ·exact q
 ·rw[A]at j;cases j

structure nX (lv y z:Int):Prop where
 up:an y lv=an z (lv+1)
 eb:an y (lv+1)=an z lv
 rest:∀j,0≤j→j≠lv→j≠lv+1→an y j=an z j

structure eL (lv f:Int)(M:St)(e:Edge)(l:Int)(x:Edge):Prop where
 lead:M.leads f x l=true
 ok:x.ok
 cx:∀y z,nX lv y z→tv M f y l x=tv M f z l e
 right:bE M f e l→bE M f x l

theorem eL.ext {lv f:Int}{M M':St}{e x:Edge}{l:Int}(j:au M M')(q:M.wf)(s:M.leads f e l=true)(h:eL lv f M e l x):eL lv f M' e l x:=
 ⟨j.leads h.lead,h.ok,fun y A z=>by rw[dA q j (aW.of h.lead),dA q j (aW.of s)];exact h.cx y A z,fun t=>dq j q (h.right (kS j q s t))⟩

structure bR (M M':St)(c:Int):Prop where
 ext:au M M'
 wf:M'.wf
 room:M'.room=M.room
 len:M'.len≤M.len+c
 cg:M.cg→M'.cg

theorem bR.refl {M:St}(h:M.wf):bR M M 0:=⟨au.refl M,h,rfl,by omega,fun h=>h⟩

theorem bR.trans {j B C:St}{c d:Int}(h:bR j B c)(k:bR B C d):bR j C (c+d):=⟨h.ext.trans k.ext,k.wf,k.room.trans h.room,by have:=h.len;have:=k.len;omega,fun j=>k.cg (h.cg j)⟩

theorem bR.le {j B:St}{c d:Int}(h:bR j B c)(q:c≤d):bR j B d:=⟨h.ext,h.wf,h.room,by have:=h.len;omega,h.cg⟩

theorem bR.fg {j B:St}{c:Int}(h:bR j B c)(q:j.room<1048576):B.len<1048576:=by
 have:=h.wf.c6;have:=h.room;omega

structure dX (lv f:Int)(M:St)(e:Edge)(l:Int)(M':St)(x:Edge)(er:Int)(c:Int):Prop where
 cf:bR M M' c
 cS:er=0→eL lv f M' e l x
 c6:er≠0→er=6∧x=⟨0,0⟩∧M'.room≤M'.len

theorem iA {f:Int}{M:St}(h:M.wf){l:Int}{e:Edge}(t:M.leads f e l=true)(q:l<M.n)(s:bQ M (af M f e l)=0):bR M (bN M (af M f e l)) 1:=by
 have j:=fB h t q s;exact⟨j.ext,j.wf,j.room,j.len,fun q=>Ag q _⟩

theorem kB {f:Int}{M:St}{l:Int}{lo hi:Edge}(j:gX f M l lo hi (aM M (aj f M l lo hi)) (aE f M (aj f M l lo hi))):bR M (aM M (aj f M l lo hi)) 1:=⟨j.ext,j.wf,j.room,j.len,fun q=>kX q _⟩

theorem AG {lv f:Int}{M j:St}(q:M.wf){e:Edge}{l c:Int}(E:M.leads f e l=true)(s:l<M.n)(z:0≤c)(A:bQ M (af M f e l)≠0)(t:j=bN M (af M f e l)) :
  bQ M (af M f e l)=6∧j=M∧dX lv f M e l M ⟨0,0⟩ 6 c:=by
 obtain⟨a,b,d⟩:=k8 q E s A
 exact⟨a,t.trans b,(bR.refl q).le z,fun h=>by(cases h),fun _=>⟨rfl,rfl,d⟩⟩

theorem jM {lv f:Int}{M M':St}{e:Edge}{l c d:Int}(s:bR M M' d)(j:d≤c)(q:M'.room≤M'.len):dX lv f M e l M' ⟨0,0⟩ 6 c:=
 ⟨s.le j,fun h=>by(cases h),fun _=>⟨rfl,rfl,q⟩⟩

theorem AF {lv f:Int}{M E Z j:St}(A:M.wf)(a6:M.room<1048576)(ab:1≤f∧f≤5){e lo hi x y:Edge}{l c:Int}(z:M.leads f e l=true)(K:0≤l)(bb:l<lv)(be:lv+1<M.n)(U:bQ M (af M f e l)=0)
  (S:E=bN M (af M f e l)) (a1:lo=bK M (af M f e l)) (am:hi=bf M f (af M f e l))
  (s:dX lv f E lo (l+1) Z x 0 c) (t:dX lv f Z hi (l+1) j y 0 c) (a3:(aE f j (aj f j l x y)).ok) :
  dX lv f M e l (aM j (aj f j l x y)) (aE f j (aj f j l x y)) (bS j (aj f j l x y)) (2+2*c):=by
 have q:=fB A z (by omega) U
 have ad:=iA A z (by omega) U
 have a4:=fun W=>jP A z K (by omega) U W S a1 am
 rw[←S]at ad
 rw[←S,←a1,←am]at q
 have av:E.leads f lo (l+1)=true:=q.cl
 have aw:E.leads f hi (l+1)=true:=q.ch
 have a2:=s.cf.ext.leads aw
 have I:=(s.cS rfl).ext t.cf.ext s.cf.wf (s.cf.ext.leads av)
 have J:=t.cS rfl
 have L:=(ad.trans s.cf).trans t.cf
 have E:=L.ext.n
 have E:=q.ext.n
 have O:=s.cf.ext.trans t.cf.ext
 rcases iO t.cf.wf ab K (by omega) I.lead J.lead with⟨N,T⟩|⟨N,a7,a8,a'⟩
 ·rw[N];have Y:=L.trans (kB T);have a5:=fun a b=>kA t.cf.wf ab K (show l<j.n by omega) (L.fg a6) I.lead J.lead N a b;refine⟨Y.le (by omega),fun _=>⟨T.lead,a3,fun a b X=>?_,fun W=>?_⟩,fun h=>absurd rfl h⟩
  ·rw[T.cx,dA A Y.ext (aW.of z),q.cx,←X.rest l K (by omega) (by omega)];cases an a l with
   |true=>
    rw[if_pos rfl,if_pos rfl,J.cx a b X];exact(dA s.cf.wf t.cf.ext (aW.of a2)).trans (dA q.wf s.cf.ext (aW.of aw))
   |false=>
    rw[if_neg (by simp),if_neg (by simp),I.cx a b X];exact dA q.wf O (aW.of av)
  ·obtain⟨_,j,s⟩:=a4 (kS Y.ext A z W);exact a5 (I.right (dq O q.wf j)) (J.right (dq O q.wf s))
 ·rw[N,a7,a8];exact jM L (by omega) a'

theorem AE {lv f:Int}{M J z A L I:St}(T:M.wf)(a5:M.room<1048576)(O:1≤f∧f≤5){e lo hi a b c d x y:Edge}(S:M.leads f e lv=true)(am:0≤lv)(cp:lv+1<M.n)(a2:bQ M (af M f e lv)=0)
  (av:J=bN M (af M f e lv)) (bs:lo=bK M (af M f e lv)) (br:hi=bf M f (af M f e lv))
  (a3:bQ J (af J f lo (lv+1))=0) (aw:z=bN J (af J f lo (lv+1))) (bi:a=bK J (af J f lo (lv+1))) (bn:b=bf J f (af J f lo (lv+1)))
  (a4:bQ z (af z f hi (lv+1))=0) (a1:A=bN z (af z f hi (lv+1))) (bp:c=bK z (af z f hi (lv+1))) (bq:d=bf z f (af z f hi (lv+1)))
  (b3:bS A (aj f A (lv+1) a c)=0) (be:L=aM A (aj f A (lv+1) a c)) (ca:x=aE f A (aj f A (lv+1) a c))
  (b4:bS L (aj f L (lv+1) b d)=0) (bg:I=aM L (aj f L (lv+1) b d)) (cb:y=aE f L (aj f L (lv+1) b d)) (b5:(aE f I (aj f I lv x y)).ok) :
  dX lv f M e lv (aM I (aj f I lv x y)) (aE f I (aj f I lv x y)) (bS I (aj f I lv x y)) 6:=by
 have E:=fB T S (by omega) a2
 have w1:=iA T S (by omega) a2
 have b6:=fun N=>jP T S am (by omega) a2 N av bs br
 rw[←av]at w1
 rw[←av,←bs,←br]at E
 have L:=E.ext.n
 have s:=fB E.wf E.cl (by omega) a3
 have ab:=iA E.wf E.cl (by omega) a3
 have b7:=fun N=>jP E.wf E.cl (by omega) (by omega) a3 N aw bi bn
 rw[←aw]at ab
 rw[←aw,←bi,←bn]at s
 have L:=s.ext.n
 have L:=s.ext.leads E.ch
 have j:=fB s.wf L (by omega) a4
 have ad:=iA s.wf L (by omega) a4
 have b8:=fun N=>jP s.wf L (by omega) (by omega) a4 N a1 bp bq
 rw[←a1]at ad
 rw[←a1,←bp,←bq]at j
 have L:=j.ext.n
 have bw:=j.ext.leads s.cl
 have lb:=j.ext.leads s.ch
 rcases iO j.wf O (l:=lv+1) (by omega) (by omega) bw j.cl with⟨W,t⟩|⟨W,_⟩
 case inr=>rw[b3]at W;cases W
 have a':=kB t
 have bt:=fun p q=>kA j.wf O (l:=lv+1) (by omega) (by omega) (((w1.trans ab).trans ad).fg a5) bw j.cl W p q
 rw[←be]at a'
 rw[←be,←ca]at t bt
 have L:=t.ext.n
 have bx:=t.ext.leads lb
 have b0:=t.ext.leads j.ch
 rcases iO t.wf O (l:=lv+1) (by omega) (by omega) bx b0 with⟨X,K⟩|⟨X,_⟩
 case inr=>rw[b4]at X;cases X
 have L:=kB K
 have bv:=fun p q=>kA t.wf O (l:=lv+1) (by omega) (by omega) ((((w1.trans ab).trans ad).trans a').fg a5) bx b0 X p q
 rw[←bg]at L
 rw[←bg,←cb]at K bv
 have W:=K.ext.n
 have b1:=K.ext.leads t.lead
 have a6:=(((w1.trans ab).trans ad).trans a').trans L
 rcases iO K.wf O am (by omega) b1 K.lead with⟨L,a8⟩|⟨L,W,X,ab⟩
 case inr=>rw[L,W,X];exact jM a6 (by omega) ab
 rw[L]
 have a7:=a6.trans (kB a8)
 have b9:=fun p q=>kA K.wf O am (show lv<I.n by omega) (a6.fg a5) b1 K.lead L p q
 refine⟨a7.le (by omega),fun _=>⟨a8.lead,b5,fun p q U=>?_,fun N=>?_⟩,fun h=>absurd rfl h⟩
 ·have O:∀(L:St) (u:Edge),L.wf→L.leads f u (lv+1+1)=true→tv L f p (lv+1+1) u=tv L f q (lv+1+1) u:=fun L u L W=>rh L (aW.of W) (fun L W=>U.rest L (by omega) (by omega) (by omega));have ch:tv A f p (lv+1+1) a=tv z f q (lv+1+1) a:=(dA s.wf j.ext (aW.of s.cl)).trans (O z a s.wf s.cl);have ci:tv A f p (lv+1+1) b=tv z f q (lv+1+1) b:=(dA s.wf j.ext (aW.of s.ch)).trans (O z b s.wf s.ch);have cj:=O A c j.wf j.cl;have cl:=O A d j.wf j.ch;have cn:tv I f p (lv+1) x=tv A f p (lv+1+1) (if an q lv then c else a):=by rw[dA t.wf K.ext (aW.of t.lead),t.cx,U.eb]
  have co:tv I f p (lv+1) y=tv A f p (lv+1+1) (if an q lv then d else b):=by
   rw[K.cx,U.eb];split;·exact dA j.wf t.ext (aW.of j.ch)
   ·exact dA j.wf t.ext (aW.of lb)
  have Z:tv J f q (lv+1) lo=tv z f q (lv+1+1) (if an q (lv+1)then b else a):=s.cx q;have Y:tv J f q (lv+1) hi=tv A f q (lv+1+1) (if an q (lv+1)then d else c):=by rw[←dA E.wf s.ext (aW.of E.ch)];exact j.cx q
  rw[a8.cx,dA T a7.ext (aW.of S),E.cx,U.up];cases bb:an q (lv+1)with
  |true=>
   rw[if_pos rfl,co];rw[bb,if_pos rfl]at Z Y;cases b2:an q lv with
   |true=>rw[if_pos rfl,if_pos rfl,Y];exact cl
   |false=>rw[if_neg (by simp),if_neg (by simp),Z];exact ci
  |false=>
   rw[if_neg (by simp),cn];rw[bb,if_neg (by simp)]at Z Y;cases b2:an q lv with
   |true=>rw[if_pos rfl,if_pos rfl,Y];exact cj
   |false=>rw[if_neg (by simp),if_neg (by simp),Z];exact ch
 ·obtain⟨_,cd,ce⟩:=b6 (kS a7.ext T S N);obtain⟨_,cf,cg⟩:=b7 cd;obtain⟨_,A,rd⟩:=b8 (dq s.ext E.wf ce);have q:=dq j.ext s.wf cf;have z:=dq j.ext s.wf cg;have rx:=bt q A;have q:=bv (dq t.ext j.wf z) (dq t.ext j.wf rd);exact b9 (dq K.ext t.wf rx) q

def df (lv l:Int):Int:=8*2 ^ (lv-l).toNat-2

theorem oD (lv:Int):df lv lv=6:=by
 unfold df;rw[show(lv-lv).toNat=0 by omega];rfl

theorem lM {lv l:Int}(h:l<lv):df lv l=2+2*df lv (l+1):=by
 unfold df;rw[show(lv-l).toNat=(lv-(l+1)).toNat+1 by omega,Int.pow_succ];omega

theorem lL {lv l:Int}:6≤df lv l:=by
 unfold df;have:(0:Int)<2 ^ (lv-l).toNat:=Int.pow_pos (by decide);omega

end Go.Proofs.YtafkamlhimkbmaaGreat
