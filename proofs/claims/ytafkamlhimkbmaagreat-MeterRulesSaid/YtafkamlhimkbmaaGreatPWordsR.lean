/-
  What View does, over the state (printed by wip/mk_vstore.py).
-/
import Derived.Test.YtafkamlhimkbmaaGreatPTMakeA
import Derived.RegionTactic
namespace Go.Proofs.YtafkamlhimkbmaaGreat
set_option maxRecDepth 1000000
set_option maxHeartbeats 8000000
set_option linter.unusedSimpArgs false
set_option linter.unusedVariables false
open Go.RowKit
theorem dQ {M:St}{f:Int}{e:Edge}{l:Int}(h:M.leads f e l=true){r:Rec}(s:look M.cs e.to=some r):r.ad=f∧l≤r.top∧e.tag≤r.top:=by
 have t:=(cC s).1;unfold St.leads at h;rw[s,bQ (show¬e.to<2 by omega)]at h;simp at h;exact⟨h.2.1.1,h.2.1.2,h.2.2⟩
def aZ (f l:Int)(e:Edge):Edge×Edge×Int:=
 if f=1∨f=3 then(e,e,0)else if f=5 then(⟨l+1,e.to⟩,⟨0,0⟩,0)else(e,⟨0,0⟩,0)
def ao (M:St)(f:Int)(e:Edge)(l:Int):(Edge×Edge×Int) ⊕ Rec:=
 if l<0∨M.n≤l then .inl (⟨0,0⟩,⟨0,0⟩,3)
 else if M.leads f e l=false then .inl (⟨0,0⟩,⟨0,0⟩,1)
 else if f=5∧(e.to=0∨l<e.tag)then .inl (e,e,0)
 else match look M.cs e.to with
  |none=>.inl (aZ f l e)
  |some r=>if l<r.top then .inl (aZ f l e)else if(f=3∨f=4)∧r.J≠r.top then .inr ⟨r.ad,r.top+1,r.J,r.lo,r.hi⟩else .inl (r.lo,r.hi,0)
def dh (M:St):(Edge×Edge×Int) ⊕ Rec→Edge | .inl x=>x.1 | .inr r=>bN M 0 r
def cF (M:St)(f:Int):(Edge×Edge×Int) ⊕ Rec→Edge | .inl x=>x.2.1 | .inr r=>if M.bh r=0 then(if f=4 then bN M 0 r else r.hi)else⟨0,0⟩
def fe (M:St):(Edge×Edge×Int) ⊕ Rec→Int | .inl x=>x.2.2 | .inr r=>M.bh r
def dI (M:St):(Edge×Edge×Int) ⊕ Rec→St | .inl _=>M | .inr r=>M.ba r
theorem iG {M:St}{s:Int}{r:Rec}(h:M.bh r=0):bN M s r=⟨s,M.bs r⟩:=ai h
theorem kq {M:St}{s:Int}{r:Rec}(h:¬M.bh r=0):bN M s r=⟨0,0⟩:=ag h
theorem nu {M:St}{r:Rec}{f l:Int}(s:r.ok)(h0:0≤l)(u:l≤16)(t:0≤f∧f≤255):(⟨f,l+1,r.J,r.lo,r.hi⟩:Rec).ok:=
 ⟨t,⟨by show 0≤l+1;omega,by show l+1≤255;omega⟩,s.J,s.lo,s.hi⟩
theorem jE {F:Nat→Prop}{w:World}{sb:Nat}{M:St}(h:aq F w sb M)(r:Rec)(Q:r.ok) :
  Calls Tryz.prog 188 #[.pointer (some ⟨sb,0,none⟩),.agg #[.int .u8 r.ad,.int .u8 r.top,.int .u8 r.J,.int .u8 r.lo.tag,.int .u32 r.lo.to,.int .u8 r.hi.tag,.int .u32 r.hi.to]] w fun e u=>e=.returned (.tuple #[.agg #[.int .u8 (bN M 0 r).tag,.int .u32 (bN M 0 r).to],.int .u8 (M.bh r)])∧af F w u∧aq (aH F w u) u sb (M.ba r):=by
 have N:=fun(s:World) (O:ae w s)=>jT (h.U O) r Q
 by_cases he:M.bh r=0
 ·have z:bN M 0 r=⟨0,M.bs r⟩:=ai he;rw[z,he];rw[he]at N;refine(sn sb r (M.bs r) w h.a8 h.lt (fun s t=>aq (aH F s t) t sb (M.ba r)) N).mono ?_;rintro e u ⟨rfl,s,t,D,E,I,J⟩;exact⟨rfl,I.after h.lt D E J⟩
 ·have z:bN M 0 r=⟨0,0⟩:=ag he;rw[z];refine(sm sb r (M.bs r) (M.bh r) he w h.a8 h.lt (fun s t=>aq (aH F s t) t sb (M.ba r)) N).mono ?_;rintro e u ⟨rfl,s,t,D,E,I,J⟩;exact⟨rfl,I.after h.lt D E J⟩
theorem jF {F:Nat→Prop}{w:World}{sb:Nat}{M:St}(h:aq F w sb M)(r:Rec)(Q:r.ok) :
  Calls Tryz.prog 189 #[.pointer (some ⟨sb,0,none⟩),.agg #[.int .u8 r.ad,.int .u8 r.top,.int .u8 r.J,.int .u8 r.lo.tag,.int .u32 r.lo.to,.int .u8 r.hi.tag,.int .u32 r.hi.to]] w fun e u=>e=.returned (.tuple #[.agg #[.int .u8 (bN M 0 r).tag,.int .u32 (bN M 0 r).to],.int .u8 (M.bh r)])∧af F w u∧aq (aH F w u) u sb (M.ba r):=by
 have N:=fun(s:World) (O:ae w s)=>jT (h.U O) r Q
 by_cases he:M.bh r=0
 ·have z:bN M 0 r=⟨0,M.bs r⟩:=ai he;rw[z,he];rw[he]at N;refine(AF sb r (M.bs r) w h.a8 h.lt (fun s t=>aq (aH F s t) t sb (M.ba r)) N).mono ?_;rintro e u ⟨rfl,s,t,D,E,I,J⟩;exact⟨rfl,I.after h.lt D E J⟩
 ·have z:bN M 0 r=⟨0,0⟩:=ag he;rw[z];refine(AE sb r (M.bs r) (M.bh r) he w h.a8 h.lt (fun s t=>aq (aH F s t) t sb (M.ba r)) N).mono ?_;rintro e u ⟨rfl,s,t,D,E,I,J⟩;exact⟨rfl,I.after h.lt D E J⟩
theorem ae.new {F:Nat→Prop}{w t u:World}(h:ae w t)(s:af F t u)(z:∀k,F k→w.heap.size≤k):ae w u:=by
 have hs:=h.size;refine⟨s.os.trans h.os,s.tape.trans h.tape,s.output.trans h.output,dp hs s.size,fun k t=>?_⟩;rw[s.block k (by omega) (fun s=>by have:=z k s;omega),h.block k t]
theorem tI (M:St)(r:Rec):(M.ba r).n=M.n:=by
 unfold St.ba;split;·rfl
 ·split;·rfl
  ·split;·rfl
   ·rfl
theorem tJ (M:St)(r:Rec):(M.ba r).a7=M.a7:=by
 unfold St.ba;split;·rfl
 ·split;·rfl
  ·split;·rfl
   ·rfl
theorem tH (M:St)(r:Rec):M.len≤(M.ba r).len∧(M.ba r).len≤M.len+1:=by
 unfold St.ba;split;·omega
 ·split;·omega
  ·split;·omega
   ·have:=po (cs:=M.cs) (gone:=M.gone) (r:=r);unfold St.len;simp only[];omega
def cK (_:St)(l:Int)(lo hi:Edge):(Edge×Int) ⊕ Rec:=if lo=hi then .inl (lo,0)else .inr ⟨1,l,l,lo,hi⟩
def cO (_:St)(l:Int)(lo hi:Edge):(Edge×Int) ⊕ Rec:=if hi.to=0 then .inl (lo,0)else .inr ⟨2,l,l,lo,hi⟩
def bk (M:St)(l:Int)(lo hi:Edge):(Edge×Int) ⊕ Rec:=
 if lo=hi then .inl (lo,0)else match look M.cs lo.to with
  |none=>.inr ⟨3,l,l,lo,hi⟩
  |some r=>if r.top=l+1 then(if r.hi=hi then .inr ⟨3,l,r.J,r.lo,hi⟩else .inr ⟨3,l,l,lo,hi⟩)else .inr ⟨3,l,l,lo,hi⟩
def bo (M:St)(l:Int)(lo hi:Edge):(Edge×Int) ⊕ Rec:=
 if hi.to=0 then .inl (lo,0)else match look M.cs lo.to with
  |none=>.inr ⟨4,l,l,lo,hi⟩
  |some r=>if lo=hi then(if r.top=l+1 then .inr ⟨4,l,r.J,r.lo,r.hi⟩else .inr ⟨4,l,l,lo,hi⟩)else .inr ⟨4,l,l,lo,hi⟩
def aC (M:St)(f l:Int)(lo hi:Edge)(rest:(Edge×Int) ⊕ Rec):(Edge×Int) ⊕ Rec:=
 if l<0∨M.n≤l then .inl (⟨0,0⟩,3)
 else if M.leads f lo (l+1)=false∨M.leads f hi (l+1)=false then .inl (⟨0,0⟩,1)else rest
def dx (M:St):(Edge×Int) ⊕ Rec→Edge | .inl x=>x.1 | .inr r=>bN M 0 r
theorem jo {f l b:Int}{lo hi:Edge}(t:0≤f∧f≤255)(h0:0≤l)(D:l≤16)(s:0≤b∧b≤255)(z:lo.ok)(u:hi.ok):(⟨f,l,b,lo,hi⟩:Rec).ok:=
 ⟨t,⟨h0,by show l≤255;omega⟩,s,z,u⟩
theorem rv {F:Nat→Prop}{w:World}{sb:Nat}{M:St}(h:aq F w sb M)(r:Rec)(Q:r.ok) :
  Calls Tryz.prog 186 #[.pointer (some ⟨sb,0,none⟩),.agg #[.int .u8 r.ad,.int .u8 r.top,.int .u8 r.J,.int .u8 r.lo.tag,.int .u32 r.lo.to,.int .u8 r.hi.tag,.int .u32 r.hi.to]] w fun e u=>e=.returned (.tuple #[.agg #[.int .u8 (bN M 0 r).tag,.int .u32 (bN M 0 r).to],.int .u8 (M.bh r)])∧af F w u∧aq (aH F w u) u sb (M.ba r):=by
 have N:=fun(s:World) (O:ae w s)=>jT (h.U O) r Q
 by_cases he:M.bh r=0
 ·have z:bN M 0 r=⟨0,M.bs r⟩:=ai he;rw[z,he];rw[he]at N;refine(rC sb r (M.bs r) w h.a8 h.lt (fun s t=>aq (aH F s t) t sb (M.ba r)) N).mono ?_;rintro e u ⟨rfl,s,t,D,E,I,J⟩;exact⟨rfl,I.after h.lt D E J⟩
 ·have z:bN M 0 r=⟨0,0⟩:=ag he;rw[z];refine(rB sb r (M.bs r) (M.bh r) he w h.a8 h.lt (fun s t=>aq (aH F s t) t sb (M.ba r)) N).mono ?_;rintro e u ⟨rfl,s,t,D,E,I,J⟩;exact⟨rfl,I.after h.lt D E J⟩
theorem Az {F:Nat→Prop}{w:World}{sb:Nat}{M:St}(h:aq F w sb M)(r:Rec)(Q:r.ok) :
  Calls Tryz.prog 187 #[.pointer (some ⟨sb,0,none⟩),.agg #[.int .u8 r.ad,.int .u8 r.top,.int .u8 r.J,.int .u8 r.lo.tag,.int .u32 r.lo.to,.int .u8 r.hi.tag,.int .u32 r.hi.to]] w fun e u=>e=.returned (.tuple #[.agg #[.int .u8 (bN M 0 r).tag,.int .u32 (bN M 0 r).to],.int .u8 (M.bh r)])∧af F w u∧aq (aH F w u) u sb (M.ba r):=by
 have N:=fun(s:World) (O:ae w s)=>jT (h.U O) r Q
 by_cases he:M.bh r=0
 ·have z:bN M 0 r=⟨0,M.bs r⟩:=ai he;rw[z,he];rw[he]at N;refine(Ay sb r (M.bs r) w h.a8 h.lt (fun s t=>aq (aH F s t) t sb (M.ba r)) N).mono ?_;rintro e u ⟨rfl,s,t,D,E,I,J⟩;exact⟨rfl,I.after h.lt D E J⟩
 ·have z:bN M 0 r=⟨0,0⟩:=ag he;rw[z];refine(Ax sb r (M.bs r) (M.bh r) he w h.a8 h.lt (fun s t=>aq (aH F s t) t sb (M.ba r)) N).mono ?_;rintro e u ⟨rfl,s,t,D,E,I,J⟩;exact⟨rfl,I.after h.lt D E J⟩
open Go
def kv (ops:Array Oper)(n:Nat):Bool:=
 (List.range ops.size).all fun s=>decide (s≤n)||(List.range s).any fun j=>decide (n≤j)&&Region.waitsFor .any ops s j
section
variable {P:Program}{ops:Array Oper}{w:World}
theorem wF {n:Nat}{J:Array Bool}(hs:Region.sinkB .any ops n=true)(X:kv ops n=true)(Q:HeadInv .any ops n J) :
  ∀(d i:Nat),n-i=d→i<n→J.getD i true=false→∀s∈Region.ready .any ops J,s<n:=by
 intro d
 induction d using Nat.strongRecOn with
 |_ d ah=>
  intro i ab hi W s V;refine Classical.byContradiction fun Z=>?_;obtain⟨_,o,O,T⟩:=mem_ready.1 V;have ad:s<ops.size:=(Array.getElem?_eq_some_iff.1 O).1;rcases Nat.lt_or_ge n s with ab|ab
  ·have z:=List.all_eq_true.1 X s (List.mem_range.2 ad);rw[Bool.or_eq_true]at z;rcases z with z|z
   ·have:=of_decide_eq_true z;omega
   ·obtain⟨j,N,u⟩:=List.any_eq_true.1 z;rw[Bool.and_eq_true]at u;obtain⟨o',E,e,he,D,I⟩:=Region.waitsFor_spec u.2;obtain rfl:o'=o:=Option.some.inj (E.symm.trans O);have t:=T e he D;rw[I,getD_both (Q.tail j (of_decide_eq_true u.1) (by have:=List.mem_range.1 N;omega))]at t;cases t
  ·obtain rfl:s=n:=(by omega);obtain⟨j,N,u⟩:=List.any_eq_true.1 (List.all_eq_true.1 hs i (List.mem_range.2 hi));rw[Bool.and_eq_true]at u;have z:=of_decide_eq_true u.1;obtain⟨o',E,e,he,D,I⟩:=Region.waitsFor_spec u.2;have u:=List.mem_range.1 N;by_cases Y:j=s
   ·subst Y;obtain rfl:o'=o:=Option.some.inj (E.symm.trans O);have t:=T e he D;rw[I,getD_both W]at t;cases t
   ·rcases U:J.getD j false with _|_;·exact Z (ah (s-j) (by omega) j rfl (by omega) (getD_in (by rw[Q.size];omega) U) s V)
    ·have t:=Q.closed j o' E U e he D;rw[I,getD_both W]at t;cases t
theorem n7 {n i:Nat}{D:Oper}{v:Value}{L:Array Bool→Act→Prop}(hi:ops[i]?=some D)(J:Region.noSelect ops=true)(hs:Region.sinkB .any ops n=true)(Q:kv ops n=true)(V:i<n)
  (T:∀s a,L s a→∀j∈Region.ready .any ops s,n≤j) :
  ∀(f:Nat) (s:Array Bool) (a:Act),HeadInv .any ops n s →
   (∀j t,ops[j]?=some t→j≠i→s.getD j true=false→(∀e∈t.after,Region.binds .any e=true→e.on≠i)→D.apart ops t=true) →
   i∈Region.ready .any ops s→YieldsAt P ops w D v a →
   wpAnyL P .any ops w n L f (s.setIfInBounds i true) (a.put D.dst v)→wpAnyL P .any ops w n L (f+1) s a
 |f,s,a,ad,U,E,ab,H=>by
  have Z:=(mem_ready.1 E).1;refine⟨fun h=>(by rw[h]at E;cases E),fun j z=>?_⟩;have X:=wF hs Q ad _ i rfl V Z j z;refine⟨X,?_⟩;by_cases u:j=i
  ·subst u;exact ab.stOp hi H
  ·cases f with
   |zero=>
    have:=T _ _ H j (ready_mono z u);omega
   |succ f=>
    obtain⟨Y,t,I,ah⟩:=mem_ready.1 z
    have av:∀e∈t.after,Region.binds .any e=true→e.on≠i:=fun e he al am=>by
     have N:=ah e he al;rw[am,getD_both Z]at N;cases N
    have N:=stOp_put I (U j t I u Y av) (fun cs b=>Region.noSelect_spec J i D cs b hi) (fun cs b=>Region.noSelect_spec J j t cs b I) ab (H.2 j (ready_mono z u)).2;refine stOp_mono (fun t O=>n7 hi J hs Q V T f (s.setIfInBounds j true) t (ad.set z X) ?_ (ready_mono E (Ne.symm u)) O.1 ?_) N
    ·intro k ok s t aw z;refine U k ok s t ?_ z;by_cases W:j=k
     ·subst W;exact Y
     ·rwa[getD_set_ne true W]at aw
    ·rw[Array.setIfInBounds_comm _ _ u];exact O.2
def jL (ops:Array Oper)(n:Nat)(t:Array Bool):Nat→Nat→Array Bool→Bool
 |0,_,s=>decide (s=t)&&(Region.ready .any ops t).all (fun j=>decide (n≤j))
 |f+1,k,s=>(Region.ready .any ops s).contains k&&Region.free .any ops s k&&jL ops n t f (k+1) (s.setIfInBounds k true)
theorem n8 {n:Nat}{z:Array Bool}{G:Act→Prop}(Q:Region.noSelect ops=true)(hs:Region.sinkB .any ops n=true)(E:kv ops n=true) :
  ∀(l:List Oper) (k:Nat) (t:Array Bool) (a:Act),(∀j,j<l.length→l[j]?=ops[k+j]?)→k+l.length=n→HeadInv .any ops n t→jL ops n z l.length k t=true →
   wpStill P ops w G l a→wpAnyL P .any ops w n (fun U D=>(U=z∧∀j∈Region.ready .any ops z,n≤j)∧G D) l.length t a
 |[],k,t,a,_,_,_,s,h=>by
  simp only[List.length_nil,jL,Bool.and_eq_true,decide_eq_true_eq]at s;exact⟨⟨s.1,fun j u=>of_decide_eq_true (List.all_eq_true.1 s.2 j u)⟩,h⟩
 |o::l,k,t,a,N,I,T,s,h=>by
  have h0:ops[k]?=some o:=by simpa using(N 0 (by simp)).symm
  simp only[List.length_cons,jL,Bool.and_eq_true]at s;have J:k<n:=by simp only[List.length_cons]at I;omega
  have O:k∈Region.ready .any ops t:=by simpa using s.1.1
  have W:stOp P ops w k (wpStill P ops w G l) a:=by
   unfold stOp;simp only[h0];exact h
  obtain⟨v,X,V⟩:=yieldsAt_of_stOp h0 W;refine n7 h0 Q hs E J (fun U D z j u=>?_) l.length t a T (Region.free_spec h0 s.1.2) O X ?_
  ·rw[z.1.1]at u;exact z.1.2 j u
  ·exact n8 Q hs E l (k+1) _ _ (fun j u=>by have:=N (j+1) (by simp;omega);simpa[Nat.add_assoc,Nat.add_comm 1 j]using this) (by simp only[List.length_cons]at I;omega) (T.set O J) s.2 V
def nZ (ops:Array Oper)(n:Nat)(s:Array Bool):Bool:=
 Region.noSelect ops&&decide (n<ops.size)&&Region.sinkB .any ops n&&kv ops n&&jL ops n s n 0 (Array.replicate ops.size false)
theorem Ar {id:Nat}{t:Exit→Act→World→Prop}{a:Act}{l:List Oper}(n:Nat)(u:Array Bool)(hm:P.follows .mixedOrders=true)(D:nZ l.toArray n u=true)
  (h:wpStill P l.toArray w.drew (fun z=>wpAny P .any l.toArray t (l.length-n) u z w.drew) (l.take n) a):(Code.region id l.toArray true).wp P t a w:=by
 simp only[nZ,Bool.and_eq_true,decide_eq_true_eq]at D
 obtain⟨⟨⟨⟨O,u⟩,hs⟩,I⟩,N⟩:=D
 have D:n<l.length:=by simpa using u
 have s:(l.take n).length=n:=by simp;omega
 have Q:HeadInv .any l.toArray n (Array.replicate l.toArray.size false):=
  ⟨by simp,fun j u _ E=>(by rw[getD_replicate_false]at E;cases E),fun D _ u=>getD_in (by simpa using u) (getD_replicate_false _ _)⟩
 have H:=n8 O hs I (l.take n) 0 (Array.replicate l.toArray.size false) a (fun j u=>by
  have J:j<n:=by rw[s]at u;exact u
  simp[J]) (by simpa using s) Q (by rw[s];exact N) h
 refine wp_region_any hm ?_
 have:=wpAny_of_head (Q':=t) (g:=l.length-n) (fun t z t=>by rw[t.1.1];exact t.2) _ _ _ H
 rw[s,show n+(l.length-n)=l.toArray.size by simp;omega]at this
 exact this
end
def eo (w:World)(a:Option Addr)(ps:List Int):Prop:=∀i x,ps[i]?=some x→∃b off,a=some ⟨b,off,none⟩∧w.cell? ⟨b,off+i,none⟩=some (.int .i64 x)
theorem eo.U {w s:World}{a:Option Addr}{ps:List Int}(h:eo w a ps)(u:ae w s):eo s a ps:=fun i x z=>by
 obtain⟨b,off,s,t⟩:=h i x z;exact⟨b,off,s,u.cell t⟩
theorem qE (n:Nat)(h:n<2 ^ 63):IntKind.i64.wrap (n:Int)=(n:Int):=by
 have e:(n:Int)%2 ^ 64=n:=Int.emod_eq_of_lt (by omega) (by omega);simp only[IntKind.wrap,IntKind.bits,IntKind.signed,e];rw[ag];simp;omega
theorem qX (s:Int)(h0:0≤s)(t:s≤9223372036854775807):bits BinOp.and IntKind.i64 s 1=s%2:=by
 obtain⟨a,rfl⟩:∃a:Nat,s=(a:Int):=⟨s.toNat,by omega⟩;have u:a &&& 1=a%2:=Nat.and_one_is_mod a
 have t:(BitVec.ofInt 64 (a:Int)).toNat=a:=by
  rw[BitVec.ofInt_natCast,BitVec.toNat_ofNat];exact fC (by omega)
 have s:(BitVec.ofInt 64 ((1:Nat):Int)).toNat=1:=by
  rw[BitVec.ofInt_natCast,BitVec.toNat_ofNat]
 show IntKind.i64.wrap ((BitVec.ofInt 64 (a:Int) &&& BitVec.ofInt 64 ((1:Nat):Int)).toNat:Int)=_;rw[BitVec.toNat_and,t,s,u,qE _ (by omega)];omega
theorem o4 (a b:Nat)(t:a<2 ^ 62)(u:b<2 ^ 62):bits BinOp.or IntKind.i64 (a:Int) (b:Int)=((a ||| b:Nat):Int):=by
 have s:∀c:Nat,c<2 ^ 62→(BitVec.ofInt 64 (c:Int)).toNat=c:=fun c z=>by
  rw[BitVec.ofInt_natCast,BitVec.toNat_ofNat];exact fC (by omega)
 have z:a ||| b<2 ^ 62:=Nat.or_lt_two_pow t u;show IntKind.i64.wrap ((BitVec.ofInt 64 (a:Int) ||| BitVec.ofInt 64 (b:Int)).toNat:Int)=_;rw[BitVec.toNat_or,s a t,s b u,qE _ (by omega)]
def gD (m:Nat)(l:List Int):Prop:=m<65536∧∀j:Nat,m.testBit j=true↔(j:Int)∈l
theorem gD.nil:gD 0 []:=⟨by decide,fun j=>by simp⟩
theorem gD.add {m:Nat}{l:List Int}{x:Int}(h:gD m l)(h0:0≤x)(s:x<16):gD (m ||| 2 ^ x.toNat) (l++[x]):=by
 have s:2 ^ x.toNat<2 ^ 16:=Nat.pow_lt_pow_right (by decide) (by omega);refine⟨Nat.or_lt_two_pow (n:=16) h.1 s,fun j=>?_⟩;rw[Nat.testBit_or,dL,h.2 j,List.mem_append,cZ,Nat.testBit_two_pow];simp only[cm];constructor
 ·rintro(a|a);·exact .inl a
  ·exact .inr (by omega)
 ·rintro(a|a);·exact .inl a
  ·exact .inr (by omega)
theorem gD.hr {m:Nat}{l:List Int}{x:Int}(h:gD m l)(h0:0≤x):(bits BinOp.and IntKind.i64 ((m:Int) / 2 ^ x.toNat) 1==1)=decide (x∈l):=by
 have hm:=h.1;have s:(0:Int)<2 ^ x.toNat:=Int.pow_pos (by decide);have s:0≤(m:Int) / 2 ^ x.toNat:=Int.ediv_nonneg (by omega) (by omega);have u:(m:Int) / 2 ^ x.toNat≤m:=Int.ediv_le_self _ (by omega);rw[qX _ s (by omega)];have t:=h.2 x.toNat;rw[show((x.toNat:Nat):Int)=x by omega]at t;have e:(m:Int) / 2 ^ x.toNat=((m / 2 ^ x.toNat:Nat):Int):=by push_cast;rfl
 rw[e];have u:m.testBit x.toNat=decide (m / 2 ^ x.toNat%2=1):=Nat.testBit_eq_decide_div_mod_eq;by_cases s:x∈l
 ·have:=t.2 s;rw[u,cm]at this;rw[bM s,beq_iff_eq];omega
 ·have:¬m / 2 ^ x.toNat%2=1:=fun z=>s (t.1 (by rw[u];exact bM z));rw[bQ s,beq_eq_false_iff_ne];omega
theorem m6 {x:Int}(h:x<62):wrap64 (2 ^ x.toNat)=2 ^ x.toNat:=by
 have s:2 ^ x.toNat≤2 ^ 61:=cJ (by decide) (by omega);have s:(2:Int) ^ x.toNat=((2 ^ x.toNat:Nat):Int):=by push_cast;rfl
 have h0:(0:Int)<2 ^ x.toNat:=Int.pow_pos (by decide);unfold wrap64;omega
def dG (ps:List Int):Bool:=decide (ps.length≤16)&&ps.all (fun x=>decide (0≤x∧x<(ps.length:Int)))&&decide ps.Nodup
theorem gQ {ps:List Int}:dG ps=true↔(ps.length≤16∧(∀x∈ps,0≤x∧x<(ps.length:Int))∧ps.Nodup):=by
 unfold dG;simp[List.all_eq_true,and_assoc]
theorem p9 {s:Type}{l:List s}{i:Nat}{x:s}(h:l[i]?=some x):l.take (i+1)=l.take i++[x]:=by
 obtain⟨hi,rfl⟩:=List.getElem?_eq_some_iff.1 h;rw[List.take_succ_eq_append_getElem hi]
theorem xp (a:Option Addr)(cap:Nat)(ps:List Int)(w:World)(h:eo w a ps)(av:ps.length≤1048576) :
  Calls Tryz.prog 142 #[.slice a ps.length cap] w fun e ay=>e=.returned (.bool (dG ps))∧w=ay:=by
 obtain⟨t,U⟩:∃t,t=ps.length:=⟨_,rfl⟩
 rw[←U]at av ⊢
 have H:=aa h
 have z:=aa U
 clear h U
 by_cases U:16<t
 ·have s:dG ps=false:=by
   cases J:dG ps with
   |false=>rfl
   |true=>have:=(gQ.1 J).1;have:=z.out;omega
  rw[s];clear s;go_enter Tryz.func142,Tryz.ntmps142;go_wp2;go_ret;exact⟨rfl,rfl⟩
 ·go_enter Tryz.func142,Tryz.ntmps142;go_wp2;go_loopg [3,5,11] t (fun gk av U U wr=>∃(m d:Nat),av=.int .i64 (m:Int)∧U=.int .i64 (d:Int)∧d+gk=t∧gD m (ps.take d)∧(∀x∈ps.take d,0≤x∧x<(t:Int))∧(ps.take d).Nodup∧w=wr)
  case atStart=>exact⟨0,0,rfl,rfl,by omega,by simpa using gD.nil,by simp,by simp,rfl⟩
  case round=>
   obtain⟨m,d,rfl,rfl,a0,hm,E,D,rfl⟩:=hrel;by_cases V:d<t
   ·obtain⟨x,Q⟩:∃b,ps[d]?=some b:=⟨_,aQ (by rw[←z.out];exact V)⟩;obtain⟨b,off,rfl,U⟩:=H.out d x Q;have O:x∈ps:=dy Q;have X:=aa Q;clear Q;by_cases U:x<0
    ·have s:dG ps=false:=by
      cases J:dG ps with
      |false=>rfl
      |true=>have:=((gQ.1 J).2.1 x O).1;omega
     have I:=aa s;clear s O hm E D;go_wp2_with fail;go_ret;exact⟨by rw[I.out];rfl,rfl⟩
    ·by_cases U:(t:Int)≤x
     ·have s:dG ps=false:=by
       cases J:dG ps with
       |false=>rfl
       |true=>have:=((gQ.1 J).2.1 x O).2;have:=z.out;omega
      have I:=aa s;clear s O hm E D;go_wp2_with fail;go_ret;exact⟨by rw[I.out];rfl,rfl⟩
     ·have Y:=hm.hr (x:=x) (by omega);by_cases N:x∈ps.take d
      ·have s:dG ps=false:=by
        cases J:dG ps with
        |false=>rfl
        |true=>
         have:=(gQ.1 J).2.2;rw[←List.take_append_drop d ps,List.nodup_append]at this;refine absurd rfl (this.2.2 x N x ?_);rw[List.drop_eq_getElem_cons (by rw[←z.out];exact V)];have:=X.out;rw[aQ (by rw[←z.out];exact V)]at this;rw[Option.some.inj this];simp
       have I:=aa s;rw[bM N]at Y;clear s O hm E D N;have ax:x≤63:=(by omega);go_wp2_with fail;go_ret;exact⟨by rw[I.out];rfl,rfl⟩
      ·rw[bQ N]at Y;have W:=hm.add (x:=x) (by omega) (by omega);have aw:=o4 m (2 ^ x.toNat) (by have:=hm.1;omega) (dz (Nat.pow_lt_pow_right (n:=16) (by decide) (by omega)) (by decide));have T:=p9 X.out;rw[←T]at W
       have ab:∀y∈ps.take (d+1),0≤y∧y<(t:Int):=fun y u=>by
        rw[T]at u;rcases List.mem_append.1 u with u|u;·exact E y u
        ·rw[cZ]at u;subst u;omega
       have Z:(ps.take (d+1)).Nodup:=by
        rw[T,List.nodup_append];exact⟨D,by simp,fun y u s ad e=>by rw[cZ]at ad;subst e;subst ad;exact N u⟩
       have ah:=aa W;have am:=aa ab;have al:=aa Z;push_cast at aw;have s:=m6 (x:=x) (by omega);clear hm E D W ab Z O N T;have ax:x≤63:=(by omega);go_wp2_with fail;go_roundg (gk-1)
       case rel=>exact⟨m ||| 2 ^ x.toNat,d+1,rfl,by simp,by omega,ah.out,am.out,al.out,rfl⟩
       case measure=>omega
   ·have s:d=t:=by omega
    have s:dG ps=true:=by
     have t:ps.take d=ps:=fm (by rw[←z.out];omega);rw[t]at E D;exact gQ.2 ⟨by have:=z.out;omega,fun x Q=>by have:=E x Q;have:=z.out;omega,D⟩
    have I:=aa s;clear hm E D s;go_wp2_with fail;go_ret;exact⟨by rw[I.out];rfl,rfl⟩
def bq (w:World)(a:Option Addr)(ws:List Int):Prop:=∀i x,ws[i]?=some x→(0≤x∧x<2 ^ 64)∧∃b off,a=some ⟨b,off,none⟩∧w.cell? ⟨b,off+i,none⟩=some (.int .u64 x)
theorem bq.U {w s:World}{a:Option Addr}{ws:List Int}(h:bq w a ws)(z:ae w s):bq s a ws:=fun i x D=>by
 obtain⟨s,b,off,t,u⟩:=h i x D;exact⟨s,b,off,t,z.cell u⟩
def bO (w:World)(g:Nat)(ps:List Int):Prop:=∃s:Array Value,w.heap[g]?=some (.cells s 56 (0,0))∧∀(i:Nat) (x:Int),ps[i]?=some x→s[i]?=some (Value.int .u64 x)
theorem bO.cell {w:World}{g:Nat}{ps:List Int}(h:bO w g ps){i:Nat}{x:Int}(u:ps[i]?=some x):w.cell? ⟨g,i,none⟩=some (.int .u64 x):=by
 obtain⟨z,s,t⟩:=h;rw[cell_of_row w g i _ _ _ s];simp only[t i x u]
theorem bO.frozen {w:World}{g:Nat}{ps:List Int}(h:bO w g ps)(i:Nat):w.frozen? ⟨g,i,none⟩=false:=by
 obtain⟨t,s,u⟩:=h;exact frozen_of_row w g i _ _ s
theorem bO.lt {w:World}{g:Nat}{ps:List Int}(h:bO w g ps):g<w.heap.size:=by
 obtain⟨t,s,u⟩:=h;exact bu s
theorem bO.keep {G:Nat→Prop}{w s:World}{g:Nat}{ps:List Int}(h:bO w g ps)(E:af G w s)(z:¬G g):bO s g ps:=by
 have D:=h.lt;obtain⟨s,t,u⟩:=h;exact⟨s,(E.block g D z).trans t,u⟩
theorem bO.U {w s:World}{g:Nat}{ps:List Int}(h:bO w g ps)(t:ae w s):bO s g ps:=h.keep (t.upd (fun _=>False)) (fun h=>h)
theorem bO.b1 {w:World}{g:Nat}{ps:List Int}(h:bO w g ps)(t:∀x∈ps,0≤x∧x<2 ^ 64):bq w (some ⟨g,0,none⟩) ps:=fun i x s=>⟨t x (dy s),g,0,rfl,by rw[iD];exact h.cell s⟩
theorem bO.set {w:World}{g:Nat}{ps:List Int}(h:bO w g ps)(i:Nat)(y:Int)(hi:i<ps.length):bO (w.setCell ⟨g,i,none⟩ (.int .u64 y)) g (ps.set i y):=by
 obtain⟨z,D,u⟩:=h;refine⟨_,Go.heap_setCell_same w g i _ _ (.int .u64 y) D,fun j x s=>?_⟩;rw[ia];by_cases t:i=j
 ·subst t;have E:=u i ps[i] (by simp[hi]);have hs:i<z.size:=(Array.getElem?_eq_some_iff.1 E).1;rw[ai rfl,ai hs];simp[hi]at s;rw[s]
 ·rw[ag t];rw[fV t]at s;exact u j x s
theorem kM {w:World}{t n:Nat}(h:w.ownsRow t 56 1 (.slice (some ⟨t,0,none⟩) n n) n (madeCells (Value.int .u64 0).cells (n*1)).toList):bO w t (List.replicate n 0):=by
 have e:(madeCells (Value.int .u64 0).cells (n*1)).toList=(List.replicate n (0:Int)).map (Value.int .u64):=by
  rw[List.map_replicate,Nat.mul_one];simp[madeCells,Value.cells,Nat.mod_one];rw[List.map_const',List.length_range]
 rw[e]at h;rcases h.2 with⟨h0,_⟩|⟨g',I,u,E,J,z,_,_,hs,D⟩
 ·cases h0
 ·cases E;obtain⟨E,I⟩:=cU h (k:=t) rfl;refine⟨u,z,fun i x t=>?_⟩;have s:((List.replicate n (0:Int)).map (Value.int .u64))[i]?=some (.int .u64 x):=by rw[iB,t];rfl
  rw[←D,ic]at s;split at s
  ·rw[Array.getElem?_toList]at s;exact s
  ·cases s
theorem jK:(Tryz.prog.info? 56).map (fun i=>(i.zero,i.size,i.bytes))=some (some (.int .u64 0),1,8):=by kernel_rfl
end Go.Proofs.YtafkamlhimkbmaaGreat
