/-
  Plainly: what Make of any two edges that lead means; what a step of swap tells.
-/
import Derived.Test.YtafkamlhimkbmaaGreatPMeansA
namespace Go.Proofs.YtafkamlhimkbmaaGreat
set_option maxRecDepth 1000000
set_option maxHeartbeats 8000000
set_option linter.unusedSimpArgs false
set_option linter.unusedVariables false

def St.cf (M:St):Prop:=M.gone=[]∧∀o∈M.cs,o≠none

theorem rl {M:St}(h:M.cf)(r:Rec):(M.a6 r).cf:=by
 unfold St.a6;cases M.b4 r with
 |some id=>exact h
 |none=>
  simp only[];split;·exact h
  ·split;·exact h
   ·refine⟨by show M.gone.dropLast=[];rw[h.1];rfl,fun o j=>?_⟩;change o∈cV M.cs M.gone r at j;unfold cV at j;rw[h.1]at j;simp only[List.getLast?_nil]at j;rcases List.mem_append.1 j with j|j;·exact h.2 o j
    ·rw[List.mem_singleton]at j;subst j;simp

theorem ly {M:St}(h:M.cf)(a:(Edge×Int) ⊕ Rec):(aR M a).cf:=by
 cases a with
 |inl x=>exact h
 |inr r=>exact rl h r

theorem AE {M:St}(h:M.cf)(a:(Edge×Edge×Int) ⊕ Rec):(bQ M a).cf:=by
 cases a with
 |inl x=>exact h
 |inr r=>exact rl h r

structure gX (f:Int)(M:St)(l:Int)(lo hi:Edge)(M':St)(e:Edge):Prop where
 ext:az M M'
 wf:M'.wf
 len:M'.len≤M.len+1
 room:M'.room=M.room
 lead:M'.leads f e l=true
 cD:∀x,tv M' f x l e=tv M f x (l+1) (if ao x l then hi else lo)

theorem rR {M:St}{f x l:Int}{e:Edge}(s:M.leads f e (l+1)=true)(t:e.to≠0)(j:l<M.n):tv M f x l e=(if cN f e l&&ao x l then false else tv M f x (l+1) e):=by
 refine iz t j ?_;cases q:look M.cs e.to with
 |none=>exact .inl rfl
 |some r=>
  obtain⟨j,t,z⟩:=dD s q;exact .inr ⟨r,rfl,by omega⟩

theorem jF {f:Int}{M:St}(h:M.wf){l:Int}{lo hi:Edge}(q:0≤l)(t:l<M.n)(j:M.leads f lo (l+1)=true)(s:∀x,tv M f x l lo=tv M f x (l+1) (if ao x l then hi else lo)):gX f M l lo hi M lo:=
 ⟨az.refl M,h,by omega,rfl,kH j q (by omega),s⟩

theorem uu (x l:Int):fw x l (l+1-l).toNat=!ao x l:=by
 rw[show(l+1-l).toNat=1 by omega];show(!ao x l&&true)=_;rw[Bool.and_true]

theorem Am {x f l:Int}{lo hi:Edge}:bI x ⟨f,l,l,lo,hi⟩=if ao x l then hi else lo:=by
 unfold bI eF;simp only[];by_cases j:f=3;·rw[if_pos j,uu,Bool.not_not]
 ·rw[if_neg j]

theorem mM {f:Int}{M:St}(h:M.wf){l:Int}{lo hi:Edge}(S:0≤l)(s:l<M.n)(I:1≤f∧f≤5){r:Rec}(J:r.ad=f)(K:r.I=l)(E:M.bq r=false)
  (T:∀(M':St) x,az M M'→M'.wf→tv M' f x (r.J+1) (bI x r)=tv M' f x (l+1) (if ao x l then hi else lo)) (N:M.leads f lo (l+1)=true) (O:M.leads f hi (l+1)=true) :
  (M.a7 r=0∧gX f M l lo hi (M.a6 r) (aH f M (.inr r)))∨(M.a7 r=6∧M.a6 r=M∧aH f M (.inr r)=⟨0,0⟩∧M.room≤M.len):=by
 by_cases j:M.a7 r=0
 ·left;obtain⟨L,t,z,s,U,W⟩:=iL h E j;have s:=t.n;have s:=h.n0;have s:=h.bw
  have A:aH f M (.inr r)=⟨if f=5 then l else 0,M.bg r⟩:=by
   unfold aH;by_cases s:f=5
   ·rw[if_pos s,if_pos s];show ba M r.I r=_;rw[dW j,K]
   ·rw[if_neg s,if_neg s];show ba M 0 r=_;rw[dW j]
  refine⟨j,t,z,U,W,?_,fun x=>?_⟩
  ·rw[A];refine aY.2 ⟨bm.2 ⟨I.1,I.2,by omega,by omega,S,by omega,fun q=>?_,fun q _=>?_⟩,.inr ⟨r,L,J,by omega,?_⟩⟩
   ·rcases q with q|q
    ·show(if f=5 then l else 0)=0;rw[if_neg q]
    ·exfalso;change M.bg r=0 at q;omega
   ·show l≤(if f=5 then l else 0)∧(if f=5 then l else 0)≤_;rw[if_pos q];omega
   ·show(if f=5 then l else 0)≤r.I;split<;>omega
  ·rw[A];rw[jd z (by omega) (show look (M.a6 r).cs _=some r from L) J (by omega) K,T _ x t z];refine dG h t (a9.of ?_);split;·exact O
   ·exact N
 ·right;obtain⟨q,s,t⟩:=kv E j;refine⟨q,s,?_,t⟩;unfold aH;split;·exact iM j
  ·exact iM j

def gH (f:Int)(M:St)(l:Int)(lo hi:Edge):Prop:=
 (bX M (ak f M l lo hi)=0∧gX f M l lo hi (aR M (ak f M l lo hi)) (aH f M (ak f M l lo hi))) ∨
 (bX M (ak f M l lo hi)=6∧aR M (ak f M l lo hi)=M∧aH f M (ak f M l lo hi)=⟨0,0⟩∧M.room≤M.len)

theorem iO {f:Int}{M:St}{l:Int}{lo hi e:Edge}(s:ak f M l lo hi=.inl (e,0))(q:gX f M l lo hi M e):gH f M l lo hi:=by
 unfold gH;rw[s];have j:aH f M (.inl (e,0))=e:=by unfold aH;split<;>rfl
 rw[j];exact .inl ⟨rfl,q⟩

theorem mL {f:Int}{M:St}{l:Int}{lo hi:Edge}{r:Rec}(q:ak f M l lo hi=.inr r)
  (j:(M.a7 r=0∧gX f M l lo hi (M.a6 r) (aH f M (.inr r)))∨(M.a7 r=6∧M.a6 r=M∧aH f M (.inr r)=⟨0,0⟩∧M.room≤M.len)):gH f M l lo hi:=by
 unfold gH
 rw[q]
 exact j

theorem jE {f:Int}{M:St}(h:M.wf){l:Int}{lo hi:Edge}(s:0≤l)(t:l<M.n)(A:1≤f∧f≤5)(j:M.leads f lo (l+1)=true)(q:M.leads f hi (l+1)=true)
  (E:ak f M l lo hi=.inr ⟨f,l,l,lo,hi⟩) (I:f=2∨f=4→hi.to≠0) (z:f≠2→f≠4→lo≠hi):gH f M l lo hi:=
 mL E (mM h s t A rfl rfl (iT s t j q I z) (fun M' x _ _=>by rw[Am]) j q)

theorem pc {M:St}{f l:Int}{e:Edge}(q:M.leads f e l=true)(j:e.to=0):e=⟨0,0⟩:=by
 have:=(bm.1 (aY.1 q).1).2.2.2.2.2.2.1 (.inr j);cases e;simp only at j this;rw[j,this]

theorem iP {f:Int}{M:St}(h:M.wf){l:Int}{lo hi:Edge}(N:1≤f∧f≤5)(t:0≤l)(z:l<M.n)(j:M.leads f lo (l+1)=true)(K:M.leads f hi (l+1)=true):gH f M l lo hi:=by
 have J:¬(l<0∨M.n≤l):=by omega
 have I:∀g:Int,g=f→¬(M.leads g lo (l+1)=false∨M.leads g hi (l+1)=false):=fun g be=>by rw[be,j,K];simp
 have bb:f=1∨f=2∨f=3∨f=4∨f=5:=by omega
 -- the same halves, or the upper one to nothing
 have same:lo=hi→(∀e:Edge,M.leads f e (l+1)=true→e.to≠0→cN f e l=false)→∀x,tv M f x l lo=tv M f x (l+1) (if ao x l then hi else lo):=fun ab aw x=>by
  subst ab;rw[ite_self];by_cases A:lo.to=0;·rw[dx A,dx A]
  ·rw[rR j A z,aw lo j A,Bool.false_and];rfl
 have a8:hi.to=0→(∀e:Edge,cN f e l=true)→∀x,tv M f x l lo=tv M f x (l+1) (if ao x l then hi else lo):=fun A aw x=>by
  by_cases av:lo.to=0
  ·rw[dx av];split;·rw[dx A]
   ·rw[dx av]
  ·rw[rR j av z,aw lo,Bool.true_and];split;·rw[dx A]
   ·rfl
 rcases bb with rfl|rfl|rfl|rfl|rfl
 ·by_cases c:lo=hi;·exact iO (by rw[fe];unfold al bY;rw[if_neg J,if_neg (I _ rfl),if_pos c]) (jF h t z j (same c (fun _ _ _=>rfl)))
  ·exact jE h t z N j K (by rw[fe];unfold al bY;rw[if_neg J,if_neg (I _ rfl),if_neg c]) (by omega) (fun _ _=>c)
 ·by_cases c:hi.to=0;·exact iO (by rw[ff];unfold al cr;rw[if_neg J,if_neg (I _ rfl),if_pos c]) (jF h t z j (a8 c (fun _=>rfl)))
  ·exact jE h t z N j K (by rw[ff];unfold al cr;rw[if_neg J,if_neg (I _ rfl),if_neg c]) (fun _=>c) (by omega)
 ·by_cases c:lo=hi;·exact iO (by rw[fU];unfold al aW;rw[if_neg J,if_neg (I _ rfl),if_pos c]) (jF h t z j (same c (fun _ _ _=>rfl)))
  ·have U:ak 3 M l lo hi=aW M l lo hi:=(by rw[fU];unfold al;rw[if_neg J,if_neg (I _ rfl)]);have node:aW M l lo hi=.inr ⟨3,l,l,lo,hi⟩→gH 3 M l lo hi:=fun Z=>jE h t z N j K (U.trans Z) (by omega) (fun _ _=>c);cases q:look M.cs lo.to with
   |none=>exact node (by unfold aW;rw[if_neg c,q])
   |some r=>
    by_cases E:r.I=l+1
    ·by_cases s:r.hi=hi
     ·obtain⟨L,a3,a4⟩:=dD j q;have g:=h.b8 q;have gt:=g.tb;have a':=g.bn;have a5:=g.hi;rw[L]at a5;have a6:=kj h q L (.inl rfl) t E;rw[s]at a6;refine mL (U.trans (by unfold aW;rw[if_neg c,q];simp only[];rw[if_pos E,if_pos s])) (mM h t z N rfl rfl a6 (fun M' x S W=>?_) j K);have ad:=S.sub _ _ q;have bn:=S.n
      have am:bI x ⟨3,l,r.J,r.lo,hi⟩=if ao x l then hi else bI x r:=by
       unfold bI eF;simp only[];rw[if_pos L,if_pos trivial,show(r.J+1-l).toNat=(r.J+1-r.I).toNat+1 by omega];show(if !(!ao x l&&fw x (l+1) (r.J+1-r.I).toNat)then hi else r.lo)=_;rw[E,s];cases ao x l with
       |true=>rfl
       |false=>rfl
      show tv M' 3 x (r.J+1) (bI x ⟨3,l,r.J,r.lo,hi⟩)=_;rw[am];cases av:ao x l with
      |true=>
       rw[if_pos rfl,if_pos rfl];have br:M'.leads 3 hi (r.J+1)=true:=(by rw[←s];exact S.leads a5);refine(rQ rfl (by omega) ?_ (r.J+1-(l+1)).toNat (l+1) (by omega)).symm;rcases(a9.of br).2 with av|⟨aw,X,Y,a1⟩;·exact .inl av
       ·exact .inr ⟨aw,X,a1⟩
      |false=>
       rw[if_neg (by simp),if_neg (by simp)];exact(jd W (by omega) ad L (by omega) E).symm
     ·exact node (by unfold aW;rw[if_neg c,q];simp only[];rw[if_pos E,if_neg s])
    ·exact node (by unfold aW;rw[if_neg c,q];simp only[];rw[if_neg E])
 ·by_cases c:hi.to=0;·exact iO (by rw[fV];unfold al aZ;rw[if_neg J,if_neg (I _ rfl),if_pos c]) (jF h t z j (a8 c (fun _=>rfl)))
  ·have U:ak 4 M l lo hi=aZ M l lo hi:=(by rw[fV];unfold al;rw[if_neg J,if_neg (I _ rfl)]);have node:aZ M l lo hi=.inr ⟨4,l,l,lo,hi⟩→gH 4 M l lo hi:=fun Z=>jE h t z N j K (U.trans Z) (fun _=>c) (by omega);cases q:look M.cs lo.to with
   |none=>exact node (by unfold aZ;rw[if_neg c,q])
   |some r=>
    by_cases E:lo=hi
    ·by_cases s:r.I=l+1
     ·obtain⟨L,a3,a4⟩:=dD j q;have g:=h.b8 q;have gt:=g.tb;have a':=g.bn;refine mL (U.trans (by unfold aZ;rw[if_neg c,q];simp only[];rw[if_pos E,if_pos s])) (mM h t z N rfl rfl (kj h q L (.inr rfl) t s) (fun M' x S W=>?_) j K);have ad:=S.sub _ _ q;have bn:=S.n
      have am:bI x ⟨4,l,r.J,r.lo,r.hi⟩=bI x r:=by
       unfold bI eF;simp[show¬r.ad=3 by omega]
      show tv M' 4 x (r.J+1) (bI x ⟨4,l,r.J,r.lo,r.hi⟩)=_;rw[am,←E,ite_self];exact(jd W (by omega) ad L (by omega) s).symm
     ·exact node (by unfold aZ;rw[if_neg c,q];simp only[];rw[if_pos E,if_neg s])
    ·exact node (by unfold aZ;rw[if_neg c,q];simp only[];rw[if_neg E])
 ·by_cases c:lo=hi
  ·refine iO (by rw[fH];unfold bo;rw[if_neg J,if_neg (I _ rfl),if_pos c]) (jF h t z j (same c (fun e ab A=>?_)));have:=(bm.1 (aY.1 ab).1).2.2.2.2.2.2.2 rfl A;unfold cN;simp;omega
  ·by_cases s:hi.to=0∧lo.tag=l+1
   ·obtain⟨s,a2⟩:=s;have A:lo.to≠0:=fun O=>c (by rw[pc j O,pc K s]);obtain⟨bp,T⟩:=aY.1 j;obtain⟨E,S,U,Z,ab,ad,am,av⟩:=bm.1 bp
    have bi:M.leads 5 ⟨l,lo.to⟩ l=true:=by
     refine aY.2 ⟨bm.2 ⟨E,S,U,Z,t,by omega,fun O=>?_,fun _ _=>⟨Int.le_refl _,by show l≤M.n;omega⟩⟩,?_⟩
     ·rcases O with O|O;·exact absurd rfl O
      ·exact absurd O A
     ·rcases T with T|⟨r,X,Y,a1,bt⟩;·exact .inl T
      ·exact .inr ⟨r,X,Y,by omega,by show l≤r.I;omega⟩
    refine iO (e:=⟨l,lo.to⟩) (by rw[fH];unfold bo;rw[if_neg J,if_neg (I _ rfl),if_neg c,if_pos ⟨s,a2⟩]) ⟨az.refl M,h,by omega,rfl,bi,fun x=>?_⟩
    have bq:look M.cs (⟨l,lo.to⟩:Edge).to=none∨∃r,look M.cs (⟨l,lo.to⟩:Edge).to=some r∧l<r.I:=by
     show look M.cs lo.to=none∨∃r,look M.cs lo.to=some r∧l<r.I;cases q:look M.cs lo.to with
     |none=>exact .inl rfl
     |some r=>obtain⟨L,a3,a4⟩:=dD j q;exact .inr ⟨r,rfl,by omega⟩
    have bs:cN 5 ⟨l,lo.to⟩ l=true:=by unfold cN;simp
    have W:a9 M 5 (l+1) ⟨l,lo.to⟩:=by
     refine⟨by omega,?_⟩;show lo.to<2∨_;rcases T with T|⟨r,X,Y,a1,bt⟩;·exact .inl T
     ·exact .inr ⟨r,X,Y,by omega⟩
    rw[iz (e:=⟨l,lo.to⟩) A z bq,bs,Bool.true_and];cases ao x l with
    |true=>rw[if_pos rfl,if_pos rfl,dx s]
    |false=>
     rw[if_neg (by simp),if_neg (by simp)];refine rS W rfl (fun a7 bg=>?_);unfold cN;simp only[a2];have q:decide (l≤a7)=true:=decide_eq_true (by omega);have A:decide (l+1≤a7)=true:=decide_eq_true bg;rw[q,A]
   ·exact jE h t z N j K (by rw[fH];unfold bo;rw[if_neg J,if_neg (I _ rfl),if_neg c,if_neg s]) (by omega) (fun _ _=>c)

theorem kJ {f:Int}{M:St}(h:M.wf){l:Int}{lo hi:Edge}(E:1≤f∧f≤5)(t:0≤l)(z:l<M.n)(J:M.len<1048576)(q:M.leads f lo (l+1)=true)(s:M.leads f hi (l+1)=true)
  (A:bX M (ak f M l lo hi)=0) (K:bH M f lo (l+1)) (I:bH M f hi (l+1)):bH (aR M (ak f M l lo hi)) f (aH f M (ak f M l lo hi)) l:=by
 rcases xD h E t z J q s K I with⟨_,_,_,q⟩|⟨j,_⟩
 ·exact q
 ·rw[A]at j;cases j

structure oF (lv y z:Int):Prop where
 up:ao y lv=ao z (lv+1)
 ek:ao y (lv+1)=ao z lv
 rest:∀j,0≤j→j≠lv→j≠lv+1→ao y j=ao z j

structure eU (lv f:Int)(M:St)(e:Edge)(l:Int)(x:Edge):Prop where
 lead:M.leads f x l=true
 ok:x.ok
 cD:∀y z,oF lv y z→tv M f y l x=tv M f z l e
 right:bH M f e l→bH M f x l

theorem eU.ext {lv f:Int}{M M':St}{e x:Edge}{l:Int}(j:az M M')(q:M.wf)(s:M.leads f e l=true)(h:eU lv f M e l x):eU lv f M' e l x:=
 ⟨j.leads h.lead,h.ok,fun y A z=>by rw[dG q j (a9.of h.lead),dG q j (a9.of s)];exact h.cD y A z,fun t=>dv j q (h.right (lj j q s t))⟩

structure bU (M M':St)(c:Int):Prop where
 ext:az M M'
 wf:M'.wf
 room:M'.room=M.room
 len:M'.len≤M.len+c
 cf:M.cf→M'.cf

theorem bU.refl {M:St}(h:M.wf):bU M M 0:=⟨az.refl M,h,rfl,by omega,fun h=>h⟩

theorem bU.trans {j B C:St}{c d:Int}(h:bU j B c)(k:bU B C d):bU j C (c+d):=⟨h.ext.trans k.ext,k.wf,k.room.trans h.room,by have:=h.len;have:=k.len;omega,fun j=>k.cf (h.cf j)⟩

theorem bU.le {j B:St}{c d:Int}(h:bU j B c)(q:c≤d):bU j B d:=⟨h.ext,h.wf,h.room,by have:=h.len;omega,h.cf⟩

theorem bU.ft {j B:St}{c:Int}(h:bU j B c)(q:j.room<1048576):B.len<1048576:=by
 have:=h.wf.cx;have:=h.room;omega

structure ey (lv f:Int)(M:St)(e:Edge)(l:Int)(M':St)(x:Edge)(er:Int)(c:Int):Prop where
 cd:bU M M' c
 c6:er=0→eU lv f M' e l x
 cx:er≠0→er=6∧x=⟨0,0⟩∧M'.room≤M'.len

theorem iA {f:Int}{M:St}(h:M.wf){l:Int}{e:Edge}(t:M.leads f e l=true)(q:l<M.n)(s:bT M (af M f e l)=0):bU M (bQ M (af M f e l)) 1:=by
 have j:=fL h t q s;exact⟨j.ext,j.wf,j.room,j.len,fun q=>AE q _⟩

theorem kK {f:Int}{M:St}{l:Int}{lo hi:Edge}(j:gX f M l lo hi (aR M (ak f M l lo hi)) (aH f M (ak f M l lo hi))):bU M (aR M (ak f M l lo hi)) 1:=⟨j.ext,j.wf,j.room,j.len,fun q=>ly q _⟩

theorem A2 {lv f:Int}{M j:St}(q:M.wf){e:Edge}{l c:Int}(E:M.leads f e l=true)(s:l<M.n)(z:0≤c)(A:bT M (af M f e l)≠0)(t:j=bQ M (af M f e l)) :
  bT M (af M f e l)=6∧j=M∧ey lv f M e l M ⟨0,0⟩ 6 c:=by
 obtain⟨a,b,d⟩:=lF q E s A
 exact⟨a,t.trans b,(bU.refl q).le z,fun h=>by(cases h),fun _=>⟨rfl,rfl,d⟩⟩

theorem jT {lv f:Int}{M M':St}{e:Edge}{l c d:Int}(s:bU M M' d)(j:d≤c)(q:M'.room≤M'.len):ey lv f M e l M' ⟨0,0⟩ 6 c:=
 ⟨s.le j,fun h=>by(cases h),fun _=>⟨rfl,rfl,q⟩⟩

theorem A1 {lv f:Int}{M E Z j:St}(A:M.wf)(a6:M.room<1048576)(ab:1≤f∧f≤5){e lo hi x y:Edge}{l c:Int}(z:M.leads f e l=true)(K:0≤l)(bb:l<lv)(be:lv+1<M.n)(U:bT M (af M f e l)=0)
  (S:E=bQ M (af M f e l)) (a1:lo=bN M (af M f e l)) (am:hi=bk M f (af M f e l))
  (s:ey lv f E lo (l+1) Z x 0 c) (t:ey lv f Z hi (l+1) j y 0 c) (a3:(aH f j (ak f j l x y)).ok) :
  ey lv f M e l (aR j (ak f j l x y)) (aH f j (ak f j l x y)) (bX j (ak f j l x y)) (2+2*c):=by
 have q:=fL A z (by omega) U
 have ad:=iA A z (by omega) U
 have a4:=fun W=>jW A z K (by omega) U W S a1 am
 rw[←S]at ad
 rw[←S,←a1,←am]at q
 have av:E.leads f lo (l+1)=true:=q.cq
 have aw:E.leads f hi (l+1)=true:=q.cg
 have a2:=s.cd.ext.leads aw
 have I:=(s.c6 rfl).ext t.cd.ext s.cd.wf (s.cd.ext.leads av)
 have J:=t.c6 rfl
 have L:=(ad.trans s.cd).trans t.cd
 have E:=L.ext.n
 have E:=q.ext.n
 have O:=s.cd.ext.trans t.cd.ext
 rcases iP t.cd.wf ab K (by omega) I.lead J.lead with⟨N,T⟩|⟨N,a7,a8,a'⟩
 ·rw[N];have Y:=L.trans (kK T);have a5:=fun a b=>kJ t.cd.wf ab K (show l<j.n by omega) (L.ft a6) I.lead J.lead N a b;refine⟨Y.le (by omega),fun _=>⟨T.lead,a3,fun a b X=>?_,fun W=>?_⟩,fun h=>absurd rfl h⟩
  ·rw[T.cD,dG A Y.ext (a9.of z),q.cD,←X.rest l K (by omega) (by omega)];cases ao a l with
   |true=>
    rw[if_pos rfl,if_pos rfl,J.cD a b X];exact(dG s.cd.wf t.cd.ext (a9.of a2)).trans (dG q.wf s.cd.ext (a9.of aw))
   |false=>
    rw[if_neg (by simp),if_neg (by simp),I.cD a b X];exact dG q.wf O (a9.of av)
  ·obtain⟨_,j,s⟩:=a4 (lj Y.ext A z W);exact a5 (I.right (dv O q.wf j)) (J.right (dv O q.wf s))
 ·rw[N,a7,a8];exact jT L (by omega) a'

theorem A0 {lv f:Int}{M J z A L I:St}(T:M.wf)(a5:M.room<1048576)(O:1≤f∧f≤5){e lo hi a b c d x y:Edge}(S:M.leads f e lv=true)(am:0≤lv)(cp:lv+1<M.n)(a2:bT M (af M f e lv)=0)
  (av:J=bQ M (af M f e lv)) (bs:lo=bN M (af M f e lv)) (br:hi=bk M f (af M f e lv))
  (a3:bT J (af J f lo (lv+1))=0) (aw:z=bQ J (af J f lo (lv+1))) (bi:a=bN J (af J f lo (lv+1))) (bn:b=bk J f (af J f lo (lv+1)))
  (a4:bT z (af z f hi (lv+1))=0) (a1:A=bQ z (af z f hi (lv+1))) (bp:c=bN z (af z f hi (lv+1))) (bq:d=bk z f (af z f hi (lv+1)))
  (b3:bX A (ak f A (lv+1) a c)=0) (be:L=aR A (ak f A (lv+1) a c)) (ca:x=aH f A (ak f A (lv+1) a c))
  (b4:bX L (ak f L (lv+1) b d)=0) (bg:I=aR L (ak f L (lv+1) b d)) (cb:y=aH f L (ak f L (lv+1) b d)) (b5:(aH f I (ak f I lv x y)).ok) :
  ey lv f M e lv (aR I (ak f I lv x y)) (aH f I (ak f I lv x y)) (bX I (ak f I lv x y)) 6:=by
 have E:=fL T S (by omega) a2
 have w1:=iA T S (by omega) a2
 have b6:=fun N=>jW T S am (by omega) a2 N av bs br
 rw[←av]at w1
 rw[←av,←bs,←br]at E
 have L:=E.ext.n
 have s:=fL E.wf E.cq (by omega) a3
 have ab:=iA E.wf E.cq (by omega) a3
 have b7:=fun N=>jW E.wf E.cq (by omega) (by omega) a3 N aw bi bn
 rw[←aw]at ab
 rw[←aw,←bi,←bn]at s
 have L:=s.ext.n
 have L:=s.ext.leads E.cg
 have j:=fL s.wf L (by omega) a4
 have ad:=iA s.wf L (by omega) a4
 have b8:=fun N=>jW s.wf L (by omega) (by omega) a4 N a1 bp bq
 rw[←a1]at ad
 rw[←a1,←bp,←bq]at j
 have L:=j.ext.n
 have bw:=j.ext.leads s.cq
 have lb:=j.ext.leads s.cg
 rcases iP j.wf O (l:=lv+1) (by omega) (by omega) bw j.cq with⟨W,t⟩|⟨W,_⟩
 case inr=>rw[b3]at W;cases W
 have a':=kK t
 have bt:=fun p q=>kJ j.wf O (l:=lv+1) (by omega) (by omega) (((w1.trans ab).trans ad).ft a5) bw j.cq W p q
 rw[←be]at a'
 rw[←be,←ca]at t bt
 have L:=t.ext.n
 have bx:=t.ext.leads lb
 have b0:=t.ext.leads j.cg
 rcases iP t.wf O (l:=lv+1) (by omega) (by omega) bx b0 with⟨X,K⟩|⟨X,_⟩
 case inr=>rw[b4]at X;cases X
 have L:=kK K
 have bv:=fun p q=>kJ t.wf O (l:=lv+1) (by omega) (by omega) ((((w1.trans ab).trans ad).trans a').ft a5) bx b0 X p q
 rw[←bg]at L
 rw[←bg,←cb]at K bv
 have W:=K.ext.n
 have b1:=K.ext.leads t.lead
 have a6:=(((w1.trans ab).trans ad).trans a').trans L
 rcases iP K.wf O am (by omega) b1 K.lead with⟨L,a8⟩|⟨L,W,X,ab⟩
 case inr=>rw[L,W,X];exact jT a6 (by omega) ab
 rw[L]
 have a7:=a6.trans (kK a8)
 have b9:=fun p q=>kJ K.wf O am (show lv<I.n by omega) (a6.ft a5) b1 K.lead L p q
 refine⟨a7.le (by omega),fun _=>⟨a8.lead,b5,fun p q U=>?_,fun N=>?_⟩,fun h=>absurd rfl h⟩
 ·have O:∀(L:St) (u:Edge),L.wf→L.leads f u (lv+1+1)=true→tv L f p (lv+1+1) u=tv L f q (lv+1+1) u:=fun L u L W=>rP L (a9.of W) (fun L W=>U.rest L (by omega) (by omega) (by omega));have ch:tv A f p (lv+1+1) a=tv z f q (lv+1+1) a:=(dG s.wf j.ext (a9.of s.cq)).trans (O z a s.wf s.cq);have ci:tv A f p (lv+1+1) b=tv z f q (lv+1+1) b:=(dG s.wf j.ext (a9.of s.cg)).trans (O z b s.wf s.cg);have cj:=O A c j.wf j.cq;have cl:=O A d j.wf j.cg;have cn:tv I f p (lv+1) x=tv A f p (lv+1+1) (if ao q lv then c else a):=by rw[dG t.wf K.ext (a9.of t.lead),t.cD,U.ek]
  have co:tv I f p (lv+1) y=tv A f p (lv+1+1) (if ao q lv then d else b):=by
   rw[K.cD,U.ek];split;·exact dG j.wf t.ext (a9.of j.cg)
   ·exact dG j.wf t.ext (a9.of lb)
  have Z:tv J f q (lv+1) lo=tv z f q (lv+1+1) (if ao q (lv+1)then b else a):=s.cD q;have Y:tv J f q (lv+1) hi=tv A f q (lv+1+1) (if ao q (lv+1)then d else c):=by rw[←dG E.wf s.ext (a9.of E.cg)];exact j.cD q
  rw[a8.cD,dG T a7.ext (a9.of S),E.cD,U.up];cases bb:ao q (lv+1)with
  |true=>
   rw[if_pos rfl,co];rw[bb,if_pos rfl]at Z Y;cases b2:ao q lv with
   |true=>rw[if_pos rfl,if_pos rfl,Y];exact cl
   |false=>rw[if_neg (by simp),if_neg (by simp),Z];exact ci
  |false=>
   rw[if_neg (by simp),cn];rw[bb,if_neg (by simp)]at Z Y;cases b2:ao q lv with
   |true=>rw[if_pos rfl,if_pos rfl,Y];exact cj
   |false=>rw[if_neg (by simp),if_neg (by simp),Z];exact ch
 ·obtain⟨_,cd,ce⟩:=b6 (lj a7.ext T S N);obtain⟨_,cf,cg⟩:=b7 cd;obtain⟨_,A,rd⟩:=b8 (dv s.ext E.wf ce);have q:=dv j.ext s.wf cf;have z:=dv j.ext s.wf cg;have rx:=bt q A;have q:=bv (dv t.ext j.wf z) (dv t.ext j.wf rd);exact b9 (dv K.ext t.wf rx) q

def dh (lv l:Int):Int:=8*2 ^ (lv-l).toNat-2

theorem oZ (lv:Int):dh lv lv=6:=by
 unfold dh;rw[show(lv-lv).toNat=0 by omega];rfl

theorem mf {lv l:Int}(h:l<lv):dh lv l=2+2*dh lv (l+1):=by
 unfold dh;rw[show(lv-l).toNat=(lv-(l+1)).toNat+1 by omega,Int.pow_succ];omega

theorem me {lv l:Int}:6≤dh lv l:=by
 unfold dh;have:(0:Int)<2 ^ (lv-l).toNat:=Int.pow_pos (by decide);omega

end Go.Proofs.YtafkamlhimkbmaaGreat
