/-
  Plainly: what Make of any two edges that lead means; what a step of swap tells.
-/
import Derived.Test.YtafkamlhimkbmaaGreatPMeansA
namespace Go.Proofs.YtafkamlhimkbmaaGreat
set_option maxRecDepth 1000000
set_option maxHeartbeats 8000000
set_option linter.unusedSimpArgs false
set_option linter.unusedVariables false
def St.cj (M:St):Prop:=M.gone=[]∧∀o∈M.cs,o≠none
theorem pO {M:St}(h:M.cj)(r:Rec):(M.ba r).cj:=by
 unfold St.ba;cases M.b9 r with
 |some id=>exact h
 |none=>
  simp only[];split;·exact h
  ·split;·exact h
   ·refine⟨by show M.gone.dropLast=[];rw[h.1];rfl,fun o s=>?_⟩;change o∈cV M.cs M.gone r at s;unfold cV at s;rw[h.1]at s;simp only[List.getLast?_nil]at s;rcases List.mem_append.1 s with s|s;·exact h.2 o s
    ·rw[cZ]at s;subst s;simp
theorem pN {M:St}(h:M.cj)(a:(Edge×Int) ⊕ Rec):(bT M a).cj:=by
 cases a with
 |inl x=>exact h
 |inr r=>exact pO h r
theorem yS {M:St}(h:M.cj)(a:(Edge×Edge×Int) ⊕ Rec):(dI M a).cj:=by
 cases a with
 |inl x=>exact h
 |inr r=>exact pO h r
structure gY (f:Int)(M:St)(l:Int)(lo hi:Edge)(M':St)(e:Edge):Prop where
 ext:aP M M'
 wf:M'.wf
 len:M'.len≤M.len+1
 a7:M'.a7=M.a7
 lead:M'.leads f e l=true
 eA:∀x,tv M' f x l e=tv M f x (l+1) (if aO x l then hi else lo)
theorem qj {M:St}{f x l:Int}{e:Edge}(u:M.leads f e (l+1)=true)(z:e.to≠0)(s:l<M.n):tv M f x l e=(if ct f e l&&aO x l then false else tv M f x (l+1) e):=by
 refine ix z s ?_;cases t:look M.cs e.to with
 |none=>exact .inl rfl
 |some r=>
  obtain⟨s,z,D⟩:=dQ u t;exact .inr ⟨r,rfl,by omega⟩
theorem jN {f:Int}{M:St}(h:M.wf){l:Int}{lo hi:Edge}(h0:0≤l)(t:l<M.n)(s:M.leads f lo (l+1)=true)(hm:∀x,tv M f x l lo=tv M f x (l+1) (if aO x l then hi else lo)):gY f M l lo hi M lo:=
 ⟨aP.refl M,h,by omega,rfl,kx s h0 (by omega),hm⟩
theorem su (x l:Int):dM x l (l+1-l).toNat=!aO x l:=by
 rw[show(l+1-l).toNat=1 by omega];show(!aO x l&&true)=_;rw[Bool.and_true]
theorem yK {x f l:Int}{lo hi:Edge}:bL x ⟨f,l,l,lo,hi⟩=if aO x l then hi else lo:=by
 unfold bL dU;simp only[];by_cases s:f=3;·rw[ai s,su,Bool.not_not]
 ·rw[ag s]
theorem mj {f:Int}{M:St}(h:M.wf){l:Int}{lo hi:Edge}(h0:0≤l)(t:l<M.n)(I:1≤f∧f≤5){r:Rec}(J:r.ad=f)(N:r.top=l)(E:M.b2 r=false)
  (hm:∀(M':St) x,aP M M'→M'.wf→tv M' f x (r.J+1) (bL x r)=tv M' f x (l+1) (if aO x l then hi else lo)) (Q:M.leads f lo (l+1)=true) (T:M.leads f hi (l+1)=true) :
  (M.bh r=0∧gY f M l lo hi (M.ba r) (bS f M (.inr r)))∨(M.bh r=6∧M.ba r=M∧bS f M (.inr r)=⟨0,0⟩∧M.a7≤M.len):=by
 by_cases he:M.bh r=0
 ·left;obtain⟨O,u,z,t,U,V⟩:=nQ h E he;have t:=u.n;have t:=h.n0;have t:=h.b0
  have D:bS f M (.inr r)=⟨if f=5 then l else 0,M.bs r⟩:=by
   unfold bS;by_cases t:f=5
   ·rw[ai t,ai t];show bN M r.top r=_;rw[iG he,N]
   ·rw[ag t,ag t];show bN M 0 r=_;rw[iG he]
  refine⟨he,u,z,U,V,?_,fun x=>?_⟩
  ·rw[D];refine bf.2 ⟨bK.2 ⟨I.1,I.2,by omega,by omega,h0,by omega,fun s=>?_,fun s _=>?_⟩,.inr ⟨r,O,J,by omega,?_⟩⟩
   ·rcases s with s|s
    ·show(if f=5 then l else 0)=0;rw[ag s]
    ·exfalso;change M.bs r=0 at s;omega
   ·show l≤(if f=5 then l else 0)∧(if f=5 then l else 0)≤_;rw[ai s];omega
   ·show(if f=5 then l else 0)≤r.top;split<;>omega
  ·rw[D];rw[iw z (by omega) (show look (M.ba r).cs _=some r from O) J (by omega) N,hm _ x u z];refine eZ h u (aW.of ?_);split;·exact T
   ·exact Q
 ·right;obtain⟨s,t,u⟩:=nM E he;refine⟨s,t,?_,u⟩;unfold bS;split;·exact kq he
  ·exact kq he
def gX (f:Int)(M:St)(l:Int)(lo hi:Edge):Prop:=
 (fB M (aT f M l lo hi)=0∧gY f M l lo hi (bT M (aT f M l lo hi)) (bS f M (aT f M l lo hi))) ∨
 (fB M (aT f M l lo hi)=6∧bT M (aT f M l lo hi)=M∧bS f M (aT f M l lo hi)=⟨0,0⟩∧M.a7≤M.len)
theorem jd {f:Int}{M:St}{l:Int}{lo hi e:Edge}(hm:aT f M l lo hi=.inl (e,0))(t:gY f M l lo hi M e):gX f M l lo hi:=by
 unfold gX;rw[hm];have s:bS f M (.inl (e,0))=e:=by unfold bS;split<;>rfl
 rw[s];exact .inl ⟨rfl,t⟩
theorem mi {f:Int}{M:St}{l:Int}{lo hi:Edge}{r:Rec}(hm:aT f M l lo hi=.inr r)
  (s:(M.bh r=0∧gY f M l lo hi (M.ba r) (bS f M (.inr r)))∨(M.bh r=6∧M.ba r=M∧bS f M (.inr r)=⟨0,0⟩∧M.a7≤M.len)):gX f M l lo hi:=by
 unfold gX
 rw[hm]
 exact s
theorem jM {f:Int}{M:St}(h:M.wf){l:Int}{lo hi:Edge}(h0:0≤l)(u:l<M.n)(D:1≤f∧f≤5)(s:M.leads f lo (l+1)=true)(t:M.leads f hi (l+1)=true)
  (hm:aT f M l lo hi=.inr ⟨f,l,l,lo,hi⟩) (E:f=2∨f=4→hi.to≠0) (z:f≠2→f≠4→lo≠hi):gX f M l lo hi:=
 mi hm (mj h h0 u D rfl rfl (jk h0 u s t E z) (fun M' x _ _=>by rw[yK]) s t)
theorem nH {M:St}{f l:Int}{e:Edge}(t:M.leads f e l=true)(s:e.to=0):e=⟨0,0⟩:=by
 have:=(bK.1 (bf.1 t).1).2.2.2.2.2.2.1 (.inr s);cases e;simp only at s this;rw[s,this]
theorem vq {f:Int}{M:St}(h:M.wf){l:Int}{lo hi:Edge}(Q:1≤f∧f≤5)(h0:0≤l)(z:l<M.n)(s:M.leads f lo (l+1)=true)(N:M.leads f hi (l+1)=true):gX f M l lo hi:=by
 have J:¬(l<0∨M.n≤l):=by omega
 have I:∀g:Int,g=f→¬(M.leads g lo (l+1)=false∨M.leads g hi (l+1)=false):=fun g a3=>by rw[a3,s,N];simp
 have a2:f=1∨f=2∨f=3∨f=4∨f=5:=by omega
 -- the same halves, or the upper one to nothing
 have same:lo=hi→(∀e:Edge,M.leads f e (l+1)=true→e.to≠0→ct f e l=false)→∀x,tv M f x l lo=tv M f x (l+1) (if aO x l then hi else lo):=fun he ah x=>by
  subst he;rw[ite_self];by_cases D:lo.to=0;·rw[cQ D,cQ D]
  ·rw[qj s D z,ah lo s D,Bool.false_and];rfl
 have a0:hi.to=0→(∀e:Edge,ct f e l=true)→∀x,tv M f x l lo=tv M f x (l+1) (if aO x l then hi else lo):=fun D ah x=>by
  by_cases ad:lo.to=0
  ·rw[cQ ad];split;·rw[cQ D]
   ·rw[cQ ad]
  ·rw[qj s ad z,ah lo,Bool.true_and];split;·rw[cQ D]
   ·rfl
 rcases a2 with rfl|rfl|rfl|rfl|rfl
 ·by_cases c:lo=hi;·exact jd (by rw[gN];unfold aC cK;rw[ag J,ag (I _ rfl),ai c]) (jN h h0 z s (same c (fun _ _ _=>rfl)))
  ·exact jM h h0 z Q s N (by rw[gN];unfold aC cK;rw[ag J,ag (I _ rfl),ag c]) (by omega) (fun _ _=>c)
 ·by_cases c:hi.to=0;·exact jd (by rw[gO];unfold aC cO;rw[ag J,ag (I _ rfl),ai c]) (jN h h0 z s (a0 c (fun _=>rfl)))
  ·exact jM h h0 z Q s N (by rw[gO];unfold aC cO;rw[ag J,ag (I _ rfl),ag c]) (fun _=>c) (by omega)
 ·by_cases c:lo=hi;·exact jd (by rw[jh];unfold aC bk;rw[ag J,ag (I _ rfl),ai c]) (jN h h0 z s (same c (fun _ _ _=>rfl)))
  ·have hm:aT 3 M l lo hi=bk M l lo hi:=(by rw[jh];unfold aC;rw[ag J,ag (I _ rfl)]);have node:bk M l lo hi=.inr ⟨3,l,l,lo,hi⟩→gX 3 M l lo hi:=fun Z=>jM h h0 z Q s N (hm.trans Z) (by omega) (fun _ _=>c);cases t:look M.cs lo.to with
   |none=>exact node (by unfold bk;rw[ag c,t])
   |some r=>
    by_cases E:r.top=l+1
    ·by_cases u:r.hi=hi
     ·obtain⟨O,av,aw⟩:=dQ s t;have g:=h.b4 t;have gt:=g.tb;have a1:=g.bn;have ax:=g.hi;rw[O]at ax;have ay:=kg h t O (.inl rfl) h0 E;rw[u]at ay;refine mi (hm.trans (by unfold bk;rw[ag c,t];simp only[];rw[ai E,ai u])) (mj h h0 z Q rfl rfl ay (fun M' x U W=>?_) s N);have ab:=U.sub _ _ t;have a6:=U.n
      have hs:bL x ⟨3,l,r.J,r.lo,hi⟩=if aO x l then hi else bL x r:=by
       unfold bL dU;simp only[];rw[ai O,ai trivial,show(r.J+1-l).toNat=(r.J+1-r.top).toNat+1 by omega];show(if !(!aO x l&&dM x (l+1) (r.J+1-r.top).toNat)then hi else r.lo)=_;rw[E,u];cases aO x l with
       |true=>rfl
       |false=>rfl
      show tv M' 3 x (r.J+1) (bL x ⟨3,l,r.J,r.lo,hi⟩)=_;rw[hs];cases ad:aO x l with
      |true=>
       rw[ai rfl,ai rfl];have a9:M'.leads 3 hi (r.J+1)=true:=(by rw[←u];exact U.leads ax);refine(qi rfl (by omega) ?_ (r.J+1-(l+1)).toNat (l+1) (by omega)).symm;rcases(aW.of a9).2 with q|⟨ad,X,Y,al⟩;·exact .inl q
       ·exact .inr ⟨ad,X,al⟩
      |false=>
       rw[ag (by simp),ag (by simp)];exact(iw W (by omega) ab O (by omega) E).symm
     ·exact node (by unfold bk;rw[ag c,t];simp only[];rw[ai E,ag u])
    ·exact node (by unfold bk;rw[ag c,t];simp only[];rw[ag E])
 ·by_cases c:hi.to=0;·exact jd (by rw[ji];unfold aC bo;rw[ag J,ag (I _ rfl),ai c]) (jN h h0 z s (a0 c (fun _=>rfl)))
  ·have hm:aT 4 M l lo hi=bo M l lo hi:=(by rw[ji];unfold aC;rw[ag J,ag (I _ rfl)]);have node:bo M l lo hi=.inr ⟨4,l,l,lo,hi⟩→gX 4 M l lo hi:=fun Z=>jM h h0 z Q s N (hm.trans Z) (fun _=>c) (by omega);cases t:look M.cs lo.to with
   |none=>exact node (by unfold bo;rw[ag c,t])
   |some r=>
    by_cases E:lo=hi
    ·by_cases u:r.top=l+1
     ·obtain⟨O,av,aw⟩:=dQ s t;have g:=h.b4 t;have gt:=g.tb;have a1:=g.bn;refine mi (hm.trans (by unfold bo;rw[ag c,t];simp only[];rw[ai E,ai u])) (mj h h0 z Q rfl rfl (kg h t O (.inr rfl) h0 u) (fun M' x U W=>?_) s N);have ab:=U.sub _ _ t;have a6:=U.n
      have hs:bL x ⟨4,l,r.J,r.lo,r.hi⟩=bL x r:=by
       unfold bL dU;simp[show¬r.ad=3 by omega]
      show tv M' 4 x (r.J+1) (bL x ⟨4,l,r.J,r.lo,r.hi⟩)=_;rw[hs,←E,ite_self];exact(iw W (by omega) ab O (by omega) u).symm
     ·exact node (by unfold bo;rw[ag c,t];simp only[];rw[ai E,ag u])
    ·exact node (by unfold bo;rw[ag c,t];simp only[];rw[ag E])
 ·by_cases c:lo=hi
  ·refine jd (by rw[iN];unfold bR;rw[ag J,ag (I _ rfl),ai c]) (jN h h0 z s (same c (fun e he D=>?_)));have:=(bK.1 (bf.1 he).1).2.2.2.2.2.2.2 rfl D;unfold ct;simp;omega
  ·by_cases u:hi.to=0∧lo.tag=l+1
   ·obtain⟨u,am⟩:=u;have D:lo.to≠0:=fun T=>c (by rw[nH s T,nH N u]);obtain⟨a7,V⟩:=bf.1 s;obtain⟨E,U,Z,ab,ad,ah,ax,ay⟩:=bK.1 a7
    have a5:M.leads 5 ⟨l,lo.to⟩ l=true:=by
     refine bf.2 ⟨bK.2 ⟨E,U,Z,ab,h0,by omega,fun T=>?_,fun _ _=>⟨Int.le_refl _,by show l≤M.n;omega⟩⟩,?_⟩
     ·rcases T with T|T;·exact absurd rfl T
      ·exact absurd T D
     ·rcases V with V|⟨r,X,Y,al,ba⟩;·exact .inl V
      ·exact .inr ⟨r,X,Y,by omega,by show l≤r.top;omega⟩
    refine jd (e:=⟨l,lo.to⟩) (by rw[iN];unfold bR;rw[ag J,ag (I _ rfl),ag c,ai ⟨u,am⟩]) ⟨aP.refl M,h,by omega,rfl,a5,fun x=>?_⟩
    have a8:look M.cs (⟨l,lo.to⟩:Edge).to=none∨∃r,look M.cs (⟨l,lo.to⟩:Edge).to=some r∧l<r.top:=by
     show look M.cs lo.to=none∨∃r,look M.cs lo.to=some r∧l<r.top;cases t:look M.cs lo.to with
     |none=>exact .inl rfl
     |some r=>obtain⟨O,av,aw⟩:=dQ s t;exact .inr ⟨r,rfl,by omega⟩
    have a':ct 5 ⟨l,lo.to⟩ l=true:=by unfold ct;simp
    have W:aW M 5 (l+1) ⟨l,lo.to⟩:=by
     refine⟨by omega,?_⟩;show lo.to<2∨_;rcases V with V|⟨r,X,Y,al,ba⟩;·exact .inl V
     ·exact .inr ⟨r,X,Y,by omega⟩
    rw[ix (e:=⟨l,lo.to⟩) D z a8,a',Bool.true_and];cases aO x l with
    |true=>rw[ai rfl,ai rfl,cQ u]
    |false=>
     rw[ag (by simp),ag (by simp)];refine qk W rfl (fun j a4=>?_);unfold ct;simp only[am];have t:decide (l≤j)=true:=bM (by omega);have D:decide (l+1≤j)=true:=bM a4;rw[t,D]
   ·exact jM h h0 z Q s N (by rw[iN];unfold bR;rw[ag J,ag (I _ rfl),ag c,ag u]) (by omega) (fun _ _=>c)
structure ck (M M':St)(c:Int):Prop where
 ext:aP M M'
 wf:M'.wf
 a7:M'.a7=M.a7
 len:M'.len≤M.len+c
 cj:M.cj→M'.cj
theorem ck.refl {M:St}(h:M.wf):ck M M 0:=⟨aP.refl M,h,rfl,by omega,fun h=>h⟩
theorem ck.trans {A B C:St}{c d:Int}(h:ck A B c)(k:ck B C d):ck A C (c+d):=⟨h.ext.trans k.ext,k.wf,k.a7.trans h.a7,by have:=h.len;have:=k.len;omega,fun q=>k.cj (h.cj q)⟩
theorem ck.le {A B:St}{c d:Int}(h:ck A B c)(s:c≤d):ck A B d:=⟨h.ext,h.wf,h.a7,by have:=h.len;omega,h.cj⟩
theorem mY {f:Int}{M:St}(h:M.wf){l:Int}{e:Edge}(u:M.leads f e l=true)(t:l<M.n)(he:fe M (ao M f e l)=0):ck M (dI M (ao M f e l)) 1:=by
 have s:=kV h u t he;exact⟨s.ext,s.wf,s.a7,s.len,fun hs=>yS hs _⟩
theorem vt {f:Int}{M:St}{l:Int}{lo hi:Edge}(s:gY f M l lo hi (bT M (aT f M l lo hi)) (bS f M (aT f M l lo hi))):ck M (bT M (aT f M l lo hi)) 1:=⟨s.ext,s.wf,s.a7,s.len,fun hs=>pN hs _⟩
end Go.Proofs.YtafkamlhimkbmaaGreat
