/-
  A range over an iterator: what an iterator owes, and the law of the statement. No program in sight.
-/
import Derived.Test.YtpgcbmbnognieaaGreatPForeA
import Derived.RangeFuncStops
import Derived.RangeFuncCalls
import Derived.RangeFuncLeaves
import Derived.StillTailTactics
import Derived.RegionTactic
namespace Go.Proofs.YtpgcbmbnognieaaGreat
set_option maxRecDepth 1000000
set_option maxHeartbeats 8000000
set_option linter.unusedSimpArgs false
set_option linter.unusedVariables false
open Go.RowKit

def Abide (B c:Nat)(J:List Int→World→Prop):Prop:=∀ p A A',J p A→Upd (fun k=>B≤k∧k<B+c) A A'→J p A'

def Iter (P:Program)(g:Nat)(lb:Array Value)(xs:List Int)(c:Nat)(St:World→Prop):Prop:=
 ∀ (l:Nat) (J Jx:List Int→World→Prop) (W:World),(∀ p A,J p A→St A)→Abide W.heap.size c J→Abide W.heap.size c Jx →
  (∀ m pre x A,J pre A→pre++[x] <+: xs→W.heap.size+c≤A.heap.size→YieldAt Fence.wide m P l #[.int .u32 x] A fun e A'=>
    (∀ k,W.heap.size≤k→k<W.heap.size+c→A'.heap[k]?=A.heap[k]?)∧A.heap.size≤A'.heap.size∧((e=.returned (.bool true)∧J (pre++[x]) A')∨(e=.returned (.bool false)∧Jx (pre++[x]) A'))) →
  J [] W→∀ n,CallsIn Fence.wide n P g (#[.func (.yield l) #[] #[]]++lb) W fun e W'=>(∃ v,e=.returned v)∧(J xs W'∨∃ pre,pre <+: xs∧Jx pre W')

def bodyEnd (D c:Nat)(I Ix:List Int→World→Prop)(ys:List Int)(W:World):Exit→Act→World→Prop
 | .normal,_,W'=>(∀ k,D≤k→k<D+2+c→W'.heap[k]?=W.heap[k]?)∧W.heap.size≤W'.heap.size∧I ys W'
 | .ret,_,W'=>(∀ k,D≤k→k<D+2+c→W'.heap[k]?=W.heap[k]?)∧W.heap.size≤W'.heap.size∧Ix ys W'
 | .exit _,_,_=>False
 | .goto _,_,_=>False
 | .panic _,_,_=>False
 | .outgrown,_,_=>False

theorem Upd.putObj {F:Nat→Prop}{w W:World}(h:Upd F w W){k:Nat}(hk:F k∨w.heap.size≤k)(o:Obj):Upd F w (W.putObj k o):=
 ⟨h.os,h.tape,h.output,by rw [World.putObj_size];exact h.size,fun j hj hn=>by
  have hne:j≠k:=fun e=>by subst e;rcases hk with hk|hk;exact hn hk;omega
  rw [World.putObj_heap_other hne]
  exact h.block j hj hn⟩

theorem wpIn_range {P:Program}{g:Operand}{ps:Tmp}{assign body:Code}{Q:Exit→Act→World→Prop}{a:Act}{w:World}{n:Nat}
  {gf:Nat} {lb:Array Value} (hg:a.eval g=.func (.func gf) #[] lb) (eg:∀ args w,(callFunc gf args).run P w=.ok (.enter gf args) w)
  {xs:List Int} {c:Nat} {St:World→Prop} (hit:Iter P gf lb xs c St)
  (I Ix:List Int→World→Prop) (hK:∀ p A,I p A→St A) (hI:Abide w.heap.size (c+2) I) (hIx:Abide w.heap.size (c+2) Ix) (h0:I [] w) (a₁:Int→Act)
  (hassign:∀ (l m:Nat) (x:Int) (W:World) (K:Act→World→Prop),K (a₁ x) W →
    assign.wpIn (Fence.wide.inRound l) m P (Exit.then K (fun _ _ _=>False)) { tmps:=((#[ps]:Array Tmp).zip #[Value.int .u32 x]).foldl (fun t (p,v)=>t.setIfInBounds p v) a.tmps,defers:=[] } W)
  (hbody:∀ (l m:Nat) (pre:List Int) (x:Int) (W:World),I pre W→pre++[x] <+: xs→w.heap.size+2+c≤W.heap.size →
    body.wpIn (Fence.wide.inRound l) m P (bodyEnd w.heap.size c I Ix (pre++[x]) W) (a₁ x) W)
  (hdone:∀ (W:World),I xs W→W.heap[w.heap.size]?=some (.deferred (some []))→Q .normal { a with defers:={ target:=.collected w.heap.size,args:=#[] }::a.defers } W)
  (hstop:∀ (pre:List Int) (W:World),pre <+: xs→Ix pre W→W.heap[w.heap.size]?=some (.deferred (some []))→Code.ret.wpIn Fence.wide n P Q { a with defers:={ target:=.collected w.heap.size,args:=#[] }::a.defers } W) :
  (Code.rangeFunc g #[ps] assign body).wpIn Fence.wide n P Q a w:=by
 refine wpIn_rangeFunc ?_
 intro fn hfn
 obtain⟨rec,hrec⟩:∃ rec:LoopState→Option Code→Loop,rec=fun st pe=>{ state:=st,pending:=pe,fn,tmps:=a.tmps,params:=#[ps],assign,body,defers:=w.heap.size }:=⟨_,rfl⟩
 obtain⟨W1,hW1⟩:∃ W1,(w.alloc (.deferred (some []))).alloc (.loop (rec .ready none))=W1:=⟨_,rfl⟩
 have hsz:W1.heap.size=w.heap.size+2:=by rw [← hW1];simp
 have hL1:W1.heap[w.heap.size+1]?=some (.loop (rec .ready none)):=by
  rw [← hW1];have:=World.alloc_heap_new (w.alloc (.deferred (some []))) (.loop (rec .ready none));rwa [World.size_alloc] at this
 have hK1:W1.heap[w.heap.size]?=some (.deferred (some [])):=by
  rw [← hW1];exact(Below.heap_alloc _ _ _ (by simp)).trans (World.alloc_heap_new w _)
 have hu1:Upd (fun k=>w.heap.size≤k∧k<w.heap.size+(c+2)) w W1:=by
  rw [← hW1];exact((Upd.refl _ w).alloc _).alloc _
 refine⟨w.heap.size+1,[{ target:=.collected w.heap.size,args:=#[] }],W1,{ target:=.fn (.func gf) lb,args:=#[.func (.yield (w.heap.size+1)) #[] #[]] },W1,gf,
  #[.func (.yield (w.heap.size+1)) #[] #[]]++lb,W1,?_,?_,?_,?_,(fun h=>by cases h),?_⟩
 ·rw [← hW1,hrec];exact run_enterLoop_outer _ _ _ _ _
 ·simp only [resolve,hg]
  simp [go_sem]
 ·intro f' hf';trivial
 ·simp [invoke,go_sem,eg]
 ·have hsub:∀ {A A':World},Upd (fun k=>W1.heap.size≤k∧k<W1.heap.size+c) A A'→Upd (fun k=>w.heap.size≤k∧k<w.heap.size+(c+2)) A A':=fun hu=>hu.mono (fun k _ hk=>⟨by omega,by omega⟩)
  have hfar:∀ {A A':World} {k:Nat} {o:Obj},Upd (fun k=>W1.heap.size≤k∧k<W1.heap.size+c) A A'→k<W1.heap.size→A.heap[k]?=some o→A'.heap[k]?=some o:=fun {A A' k o} hu hk ho=>
   (hu.block k (Array.getElem?_eq_some_iff.1 ho).1 (fun hh=>by omega)).trans ho
  refine(hit (w.heap.size+1)
   (fun p W=>I p W∧W.heap[w.heap.size+1]?=some (.loop (rec .ready none))∧W.heap[w.heap.size]?=some (.deferred (some [])))
   (fun p W=>Ix p W∧W.heap[w.heap.size+1]?=some (.loop (rec .done (some .ret)))∧W.heap[w.heap.size]?=some (.deferred (some [])))
   W1 (fun p A hp=>hK p A hp.1)
   (fun p A A' hp hu=>⟨hI p A A' hp.1 (hsub hu),hfar hu (by omega) hp.2.1,hfar hu (by omega) hp.2.2⟩)
   (fun p A A' hp hu=>⟨hIx p A A' hp.1 (hsub hu),hfar hu (by omega) hp.2.1,hfar hu (by omega) hp.2.2⟩)
   ?_ ⟨hI _ _ _ h0 hu1,hL1,hK1⟩ (n-1)).mono ?_
  ·rintro m pre x A ⟨hi,hl,hk⟩ hpre hlen
   have hlt:w.heap.size+1<A.heap.size:=(Array.getElem?_eq_some_iff.1 hl).1
   have hy:=run_yield (P:=P) (args:=#[.int .u32 x]) hl (by rw [hrec];rfl)
   rw [hrec] at hy
   refine⟨fn,_,assign,body,hy,roundIn_of_wpIn trivial ?_⟩
   refine hassign _ _ x A _ ?_
   refine⟨_,run_beginRound hl (by rw [hrec]),?_⟩
   have hl2:(A.putObj (w.heap.size+1) (.loop { rec .ready none with state:=.busy })).heap[w.heap.size+1]?=some (.loop { rec .ready none with state:=.busy }):=World.putObj_heap_same hlt
   have hk2:(A.putObj (w.heap.size+1) (.loop { rec .ready none with state:=.busy })).heap[w.heap.size]?=some (.deferred (some [])):=(World.putObj_heap_other (by omega)).trans hk
   have hu2:Upd (fun k=>w.heap.size≤k∧k<w.heap.size+(c+2)) A (A.putObj (w.heap.size+1) (.loop { rec .ready none with state:=.busy })):=(Upd.refl _ A).putObj (.inl ⟨by omega,by omega⟩) _
   refine wpIn_mono (hbody _ _ pre x _ (hI _ _ _ hi hu2) hpre (by rw [World.putObj_size];omega)) ?_
   rintro e a3 W3 hp
   have fin:∀ (jump:Option Code),(∀ k,w.heap.size≤k→k<w.heap.size+2+c→W3.heap[k]?=(A.putObj (w.heap.size+1) (.loop { rec .ready none with state:=.busy })).heap[k]?) →
     (Instr.endRound (w.heap.size+1) jump).run P W3=.ok (.bool jump.isNone) (W3.putObj (w.heap.size+1) (.loop (rec (if jump.isNone then .ready else .done) jump))) ∧
     (W3.putObj (w.heap.size+1) (.loop (rec (if jump.isNone then .ready else .done) jump))).heap[w.heap.size+1]?=some (.loop (rec (if jump.isNone then .ready else .done) jump)) ∧
     (W3.putObj (w.heap.size+1) (.loop (rec (if jump.isNone then .ready else .done) jump))).heap[w.heap.size]?=some (.deferred (some [])) ∧
     (∀ k,W1.heap.size≤k→k<W1.heap.size+c→(W3.putObj (w.heap.size+1) (.loop (rec (if jump.isNone then .ready else .done) jump))).heap[k]?=A.heap[k]?):=fun jump hs=>by
    have hl3:=(hs _ (by omega) (by omega)).trans hl2
    have hk3:=(hs _ (by omega) (by omega)).trans hk2
    have:=run_endRound (P:=P) jump hl3
    rw [hrec] at this ⊢
    refine⟨this,World.putObj_heap_same (Array.getElem?_eq_some_iff.1 hl3).1,(World.putObj_heap_other (by omega)).trans hk3,fun k h1 h2=>?_⟩
    rw [World.putObj_heap_other (by omega),hs k (by omega) (by omega),World.putObj_heap_other (by omega)]
   have hu3:∀ o,Upd (fun k=>w.heap.size≤k∧k<w.heap.size+(c+2)) W3 (W3.putObj (w.heap.size+1) o):=fun o=>(Upd.refl _ W3).putObj (.inl ⟨by omega,by omega⟩) o
   cases e with
   | normal=>
    obtain⟨hs,hz3,hi3⟩:=hp
    obtain⟨hr,hl4,hk4,ho4⟩:=fin none hs
    rw [World.putObj_size] at hz3
    exact⟨_,_,hr,ho4,by rw [World.putObj_size];exact hz3,.inl ⟨rfl,hI _ _ _ hi3 (hu3 _),hl4,hk4⟩⟩
   | ret=>
    obtain⟨hs,hz3,hi3⟩:=hp
    obtain⟨hr,hl4,hk4,ho4⟩:=fin (some .ret) hs
    rw [World.putObj_size] at hz3
    exact⟨_,_,hr,ho4,by rw [World.putObj_size];exact hz3,.inr ⟨rfl,hIx _ _ _ hi3 (hu3 _),hl4,hk4⟩⟩
   | exit id=>exact hp.elim
   | goto t=>exact hp.elim
   | panic ch=>exact hp.elim
   | outgrown=>exact hp.elim
  ·rintro e W2 ⟨⟨v,rfl⟩,(⟨hi,hl,hk⟩|⟨pre,hpre,hi,hl,hk⟩)⟩
   ·have hu3:∀ o,Upd (fun k=>w.heap.size≤k∧k<w.heap.size+(c+2)) W2 (W2.putObj (w.heap.size+1) o):=fun o=>(Upd.refl _ W2).putObj (.inl ⟨by omega,by omega⟩) o
    exact⟨none,_,by have:=run_endLoop (P:=P) hl (by rw [hrec];simp);rw [hrec] at this;exact this,hdone _ (hI _ _ _ hi (hu3 _)) ((World.putObj_heap_other (by omega)).trans hk)⟩
   ·have hu3:∀ o,Upd (fun k=>w.heap.size≤k∧k<w.heap.size+(c+2)) W2 (W2.putObj (w.heap.size+1) o):=fun o=>(Upd.refl _ W2).putObj (.inl ⟨by omega,by omega⟩) o
    exact⟨some .ret,_,by have:=run_endLoop (P:=P) hl (by rw [hrec];simp);rw [hrec] at this;exact this,hstop pre _ hpre (hIx _ _ _ hi (hu3 _)) ((World.putObj_heap_other (by omega)).trans hk)⟩

open Go

def lateB (ops:Array Oper)(n:Nat):Bool:=
 (List.range ops.size).all fun t=>decide (t≤n)||(List.range t).any fun j=>decide (n≤j)&&Region.waitsFor .any ops t j

section
variable {P:Program}{ops:Array Oper}{w:World}

theorem none_late {n:Nat}{listed:Array Bool}(hs:Region.sinkB .any ops n=true)(hc:lateB ops n=true)(inv:HeadInv .any ops n listed) :
  ∀ (d i:Nat),n-i=d→i<n→listed.getD i true=false→∀ t∈Region.ready .any ops listed,t<n:=by
 intro d
 induction d using Nat.strongRecOn with
 | _ d ih=>
  intro i hd hi hun t hr
  refine Classical.byContradiction fun hlt=>?_
  obtain⟨_,o,ho,hall⟩:=mem_ready.1 hr
  have hts:t<ops.size:=(Array.getElem?_eq_some_iff.1 ho).1
  rcases Nat.lt_or_ge n t with hnt|hnt
  ·have h1:=List.all_eq_true.1 hc t (List.mem_range.2 hts)
   rw [Bool.or_eq_true] at h1
   rcases h1 with h1|h1
   ·have:=of_decide_eq_true h1
    omega
   ·obtain⟨j,hj,h2⟩:=List.any_eq_true.1 h1
    rw [Bool.and_eq_true] at h2
    obtain⟨o',ho',e,he,hb,hon⟩:=Region.waitsFor_spec h2.2
    obtain rfl:o'=o:=Option.some.inj (ho'.symm.trans ho)
    have h3:=hall e he hb
    rw [hon,getD_both (inv.tail j (of_decide_eq_true h2.1) (by have:=List.mem_range.1 hj;omega))] at h3
    cases h3
  ·obtain rfl:t=n:=by omega
   obtain⟨j,hj,h2⟩:=List.any_eq_true.1 (List.all_eq_true.1 hs i (List.mem_range.2 hi))
   rw [Bool.and_eq_true] at h2
   have hij:=of_decide_eq_true h2.1
   obtain⟨o',ho',e,he,hb,hon⟩:=Region.waitsFor_spec h2.2
   have hjr:=List.mem_range.1 hj
   by_cases hjt:j=t
   ·subst hjt
    obtain rfl:o'=o:=Option.some.inj (ho'.symm.trans ho)
    have h3:=hall e he hb
    rw [hon,getD_both hun] at h3
    cases h3
   ·rcases hl:listed.getD j false with _|_
    ·exact hlt (ih (t-j) (by omega) j rfl (by omega) (getD_in (by rw [inv.size];omega) hl) t hr)
    ·have h3:=inv.closed j o' ho' hl e he hb
     rw [hon,getD_both hun] at h3
     cases h3

theorem head_first {n i:Nat}{oi:Oper}{v:Value}{L:Array Bool→Act→Prop}(hi:ops[i]?=some oi)(hsel:Region.noSelect ops=true)(hs:Region.sinkB .any ops n=true)(hc:lateB ops n=true)(hin:i<n)
  (hend:∀ listed a,L listed a→∀ j∈Region.ready .any ops listed,n≤j) :
  ∀ (f:Nat) (listed:Array Bool) (a:Act),HeadInv .any ops n listed →
   (∀ j oj,ops[j]?=some oj→j≠i→listed.getD j true=false→(∀ e∈oj.after,Region.binds .any e=true→e.on≠i)→oi.apart ops oj=true) →
   i∈Region.ready .any ops listed→YieldsAt P ops w oi v a →
   wpAnyL P .any ops w n L f (listed.setIfInBounds i true) (a.put oi.dst v)→wpAnyL P .any ops w n L (f+1) listed a
 | f,listed,a,inv,hfree,hr,hy,H=>by
  have hun:=(mem_ready.1 hr).1
  refine⟨fun h=>(by rw [h] at hr;cases hr),fun j hj=>?_⟩
  have hjn:=none_late hs hc inv _ i rfl hin hun j hj
  refine⟨hjn,?_⟩
  by_cases hji:j=i
  ·subst hji
   exact hy.stOp hi H
  ·cases f with
   | zero=>
    have:=hend _ _ H j (ready_mono hj hji)
    omega
   | succ f=>
    obtain⟨hjun,oj,hoj,hall⟩:=mem_ready.1 hj
    have hno:∀ e∈oj.after,Region.binds .any e=true→e.on≠i:=fun e he hb heq=>by
     have h1:=hall e he hb
     rw [heq,getD_both hun] at h1
     cases h1
    have h2:=stOp_put hoj (hfree j oj hoj hji hjun hno) (fun cs b=>Region.noSelect_spec hsel i oi cs b hi) (fun cs b=>Region.noSelect_spec hsel j oj cs b hoj) hy (H.2 j (ready_mono hj hji)).2
    refine stOp_mono (fun a' h3=>head_first hi hsel hs hc hin hend f (listed.setIfInBounds j true) a' (inv.set hj hjn) ?_ (ready_mono hr (Ne.symm hji)) h3.1 ?_) h2
    ·intro k ok hk hki hu hn'
     refine hfree k ok hk hki ?_ hn'
     by_cases hjk:j=k
     ·subst hjk
      exact hjun
     ·rwa [getD_set_ne true hjk] at hu
    ·rw [Array.setIfInBounds_comm _ _ hji]
     exact h3.2

def lexTo (ops:Array Oper)(n:Nat)(T:Array Bool):Nat→Nat→Array Bool→Bool
 | 0,_,listed=>decide (listed=T)&&(Region.ready .any ops T).all (fun j=>decide (n≤j))
 | f+1,k,listed=>(Region.ready .any ops listed).contains k&&Region.free .any ops listed k&&lexTo ops n T f (k+1) (listed.setIfInBounds k true)

theorem head_lex {n:Nat}{T:Array Bool}{G:Act→Prop}(hsel:Region.noSelect ops=true)(hs:Region.sinkB .any ops n=true)(hc:lateB ops n=true) :
  ∀ (l:List Oper) (k:Nat) (listed:Array Bool) (a:Act),(∀ j,j<l.length→l[j]?=ops[k+j]?)→k+l.length=n→HeadInv .any ops n listed→lexTo ops n T l.length k listed=true →
   wpStill P ops w G l a→wpAnyL P .any ops w n (fun listed' a'=>(listed'=T∧∀ j∈Region.ready .any ops T,n≤j)∧G a') l.length listed a
 | [],k,listed,a,_,_,_,hB,h=>by
  simp only [List.length_nil,lexTo,Bool.and_eq_true,decide_eq_true_eq] at hB
  exact⟨⟨hB.1,fun j hj=>of_decide_eq_true (List.all_eq_true.1 hB.2 j hj)⟩,h⟩
 | o::l,k,listed,a,hl,hk,inv,hB,h=>by
  have h0:ops[k]?=some o:=by simpa using (hl 0 (by simp)).symm
  simp only [List.length_cons,lexTo,Bool.and_eq_true] at hB
  have hkn:k<n:=by simp only [List.length_cons] at hk;omega
  have hr:k∈Region.ready .any ops listed:=by simpa using hB.1.1
  have hst:stOp P ops w k (wpStill P ops w G l) a:=by
   unfold stOp
   simp only [h0]
   exact h
  obtain⟨v,hy,hK⟩:=yieldsAt_of_stOp h0 hst
  refine head_first h0 hsel hs hc hkn (fun listed' a' hL j hj=>?_) l.length listed a inv (Region.free_spec h0 hB.1.2) hr hy ?_
  ·rw [hL.1.1] at hj
   exact hL.1.2 j hj
  ·exact head_lex hsel hs hc l (k+1) _ _ (fun j hj=>by have:=hl (j+1) (by simp;omega);simpa [Nat.add_assoc,Nat.add_comm 1 j] using this) (by simp only [List.length_cons] at hk;omega) (inv.set hr hkn) hB.2 hK

def headB (ops:Array Oper)(n:Nat)(T:Array Bool):Bool:=
 Region.noSelect ops&&decide (n<ops.size)&&Region.sinkB .any ops n&&lateB ops n&&lexTo ops n T n 0 (Array.replicate ops.size false)

theorem wp_region_head {id:Nat}{Q:Exit→Act→World→Prop}{a:Act}{l:List Oper}(n:Nat)(T:Array Bool)(hm:P.follows .mixedOrders=true)(hB:headB l.toArray n T=true)
  (h:wpStill P l.toArray w.drew (fun a'=>wpAny P .any l.toArray Q (l.length-n) T a' w.drew) (l.take n) a):(Code.region id l.toArray true).wp P Q a w:=by
 simp only [headB,Bool.and_eq_true,decide_eq_true_eq] at hB
 obtain⟨⟨⟨⟨hsel,hn⟩,hs⟩,hc⟩,hlex⟩:=hB
 have hn':n<l.length:=by simpa using hn
 have htl:(l.take n).length=n:=by simp;omega
 have inv0:HeadInv .any l.toArray n (Array.replicate l.toArray.size false):=
  ⟨by simp,fun j oj _ hl=>(by rw [getD_replicate_false] at hl;cases hl),fun t _ ht=>getD_in (by simpa using ht) (getD_replicate_false _ _)⟩
 have H:=head_lex hsel hs hc (l.take n) 0 (Array.replicate l.toArray.size false) a (fun j hj=>by
  have hj':j<n:=by rw [htl] at hj;exact hj
  simp [hj']) (by simpa using htl) inv0 (by rw [htl];exact hlex) h
 refine wp_region_any hm ?_
 have:=wpAny_of_head (Q':=Q) (g:=l.length-n) (fun listed a' hL=>by rw [hL.1.1];exact hL.2) _ _ _ H
 rw [htl,show n+(l.length-n)=l.toArray.size by simp;omega] at this
 exact this

end

end Go.Proofs.YtpgcbmbnognieaaGreat
