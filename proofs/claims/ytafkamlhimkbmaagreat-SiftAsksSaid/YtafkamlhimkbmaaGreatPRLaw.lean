/-
  A range over an iterator: what an iterator owes, and the law of the statement. No program in sight.
-/
import Derived.Test.YtafkamlhimkbmaaGreatPForeA
import Derived.RangeFuncStops
import Derived.RangeFuncCalls
import Derived.RangeFuncLeaves
namespace Go.Proofs.YtafkamlhimkbmaaGreat
set_option maxRecDepth 1000000
set_option maxHeartbeats 8000000
set_option linter.unusedSimpArgs false
set_option linter.unusedVariables false
open Go.RowKit
def lR (s c:Nat)(t:List Int→World→Prop):Prop:=∀p j q,t p j→af (fun k=>s≤k∧k<s+c) j q→t p q
def Iter (P:Program)(g:Nat)(lb:Array Value)(xs:List Int)(c:Nat)(St:World→Prop):Prop:=
 ∀(l:Nat) (s z:List Int→World→Prop) (q:World),(∀p j,s p j→St j)→lR q.heap.size c s→lR q.heap.size c z →
  (∀m pre x j,s pre j→pre++[x] <+: xs→q.heap.size+c≤j.heap.size→YieldAt Fence.wide m P l #[.int .u32 x] j fun e t=>
    (∀k,q.heap.size≤k→k<q.heap.size+c→t.heap[k]?=j.heap[k]?)∧j.heap.size≤t.heap.size∧((e=.returned (.bool true)∧s (pre++[x]) t)∨(e=.returned (.bool false)∧z (pre++[x]) t))) →
  s [] q→∀n,CallsIn Fence.wide n P g (#[.func (.yield l) #[] #[]]++lb) q fun e W'=>(∃v,e=.returned v)∧(s xs W'∨∃pre,pre <+: xs∧z pre W')
def wg (D c:Nat)(s t:List Int→World→Prop)(q:List Int)(j:World):Exit→Act→World→Prop
 |.normal,_,W'=>(∀k,D≤k→k<D+2+c→W'.heap[k]?=j.heap[k]?)∧j.heap.size≤W'.heap.size∧s q W'
 |.ret,_,W'=>(∀k,D≤k→k<D+2+c→W'.heap[k]?=j.heap[k]?)∧j.heap.size≤W'.heap.size∧t q W'
 |.exit _,_,_=>False
 |.goto _,_,_=>False
 |.panic _,_,_=>False
 |.outgrown,_,_=>False
theorem af.putObj {F:Nat→Prop}{w q:World}(h:af F w q){k:Nat}(j:F k∨w.heap.size≤k)(o:Obj):af F w (q.putObj k o):=
 ⟨h.os,h.tape,h.output,by rw[World.putObj_size];exact h.size,fun t z s=>by
  have A:t≠k:=fun e=>by subst e;rcases j with j|j;exact s j;omega
  rw[World.putObj_heap_other A]
  exact h.block t z s⟩
theorem Ek {P:Program}{g:Operand}{ps:Tmp}{assign body:Code}{Q:Exit→Act→World→Prop}{a:Act}{w:World}{n:Nat}
  {gf:Nat} {lb:Array Value} (av:a.eval g=.func (.func gf) #[] lb) (W:∀args w,(callFunc gf args).run P w=.ok (.enter gf args) w)
  {xs:List Int} {c:Nat} {St:World→Prop} (bb:Iter P gf lb xs c St)
  (E U:List Int→World→Prop) (a4:∀p j,E p j→St j) (S:lR w.heap.size (c+2) E) (X:lR w.heap.size (c+2) U) (a3:E [] w) (A:Int→Act)
  (a7:∀(l m:Nat) (x:Int) (q:World) (K:Act→World→Prop),K (A x) q →
    assign.wpIn (Fence.wide.inRound l) m P (Exit.then K (fun _ _ _=>False)) { tmps:=((#[ps]:Array Tmp).zip #[Value.int .u32 x]).foldl (fun a1 (p,v)=>a1.setIfInBounds p v) a.tmps,defers:=[] } q)
  (a8:∀(l m:Nat) (pre:List Int) (x:Int) (q:World),E pre q→pre++[x] <+: xs→w.heap.size+2+c≤q.heap.size →
    body.wpIn (Fence.wide.inRound l) m P (wg w.heap.size c E U (pre++[x]) q) (A x) q)
  (a':∀(q:World),E xs q→q.heap[w.heap.size]?=some (.deferred (some []))→Q .normal { a with defers:={ target:=.collected w.heap.size,args:=#[] }::a.defers } q)
  (bg:∀(pre:List Int) (q:World),pre <+: xs→U pre q→q.heap[w.heap.size]?=some (.deferred (some []))→Code.ret.wpIn Fence.wide n P Q { a with defers:={ target:=.collected w.heap.size,args:=#[] }::a.defers } q) :
  (Code.rangeFunc g #[ps] assign body).wpIn Fence.wide n P Q a w:=by
 refine wpIn_rangeFunc ?_
 intro fn A
 obtain⟨rec,B⟩:∃rec:LoopState→Option Code→Loop,rec=fun aw A=>{ state:=aw,pending:=A,fn,tmps:=a.tmps,params:=#[ps],assign,body,defers:=w.heap.size }:=⟨_,rfl⟩
 obtain⟨s,z⟩:∃s,(w.alloc (.deferred (some []))).alloc (.loop (rec .ready none))=s:=⟨_,rfl⟩
 have A:s.heap.size=w.heap.size+2:=by rw[←z];simp
 have a6:s.heap[w.heap.size+1]?=some (.loop (rec .ready none)):=by
  rw[←z];have:=World.alloc_heap_new (w.alloc (.deferred (some []))) (.loop (rec .ready none));rwa[ai]at this
 have a5:s.heap[w.heap.size]?=some (.deferred (some [])):=by
  rw[←z];exact(Below.heap_alloc _ _ _ (by simp)).trans (World.alloc_heap_new w _)
 have bi:af (fun k=>w.heap.size≤k∧k<w.heap.size+(c+2)) w s:=by
  rw[←z];exact((af.refl _ w).alloc _).alloc _
 refine⟨w.heap.size+1,[{ target:=.collected w.heap.size,args:=#[] }],s,{ target:=.fn (.func gf) lb,args:=#[.func (.yield (w.heap.size+1)) #[] #[]] },s,gf,
  #[.func (.yield (w.heap.size+1)) #[] #[]]++lb,s,?_,?_,?_,?_,(fun h=>by cases h),?_⟩
 ·rw[←z,B];exact run_enterLoop_outer _ _ _ _ _
 ·simp only[resolve,av];simp[go_sem]
 ·intro z z;trivial
 ·simp[invoke,go_sem,W]
 ·have aw:∀{j A:World},af (fun k=>s.heap.size≤k∧k<s.heap.size+c) j A→af (fun k=>w.heap.size≤k∧k<w.heap.size+(c+2)) j A:=fun z=>z.mono (fun k _ I=>⟨by omega,by omega⟩)
  have W:∀{j A:World} {k:Nat} {o:Obj},af (fun k=>s.heap.size≤k∧k<s.heap.size+c) j A→k<s.heap.size→j.heap[k]?=some o→A.heap[k]?=some o:=fun {j A k o} z I av=>
   (z.block k (Array.getElem?_eq_some_iff.1 av).1 (fun bn=>by omega)).trans av
  refine(bb (w.heap.size+1)
   (fun p q=>E p q∧q.heap[w.heap.size+1]?=some (.loop (rec .ready none))∧q.heap[w.heap.size]?=some (.deferred (some [])))
   (fun p q=>U p q∧q.heap[w.heap.size+1]?=some (.loop (rec .done (some .ret)))∧q.heap[w.heap.size]?=some (.deferred (some [])))
   s (fun p j t=>a4 p j t.1)
   (fun p j A t z=>⟨S p j A t.1 (aw z),W z (by omega) t.2.1,W z (by omega) t.2.2⟩)
   (fun p j A t z=>⟨X p j A t.1 (aw z),W z (by omega) t.2.1,W z (by omega) t.2.2⟩)
   ?_ ⟨S _ _ _ a3 bi,a6,a5⟩ (n-1)).mono ?_
  ·rintro m pre x j ⟨hi,J,I⟩ al q;have bf:w.heap.size+1<j.heap.size:=(Array.getElem?_eq_some_iff.1 J).1;have a0:=run_yield (P:=P) (args:=#[.int .u32 x]) J (by rw[B];rfl);rw[B]at a0;refine⟨fn,_,assign,body,a0,roundIn_of_wpIn trivial ?_⟩;refine a7 _ _ x j _ ?_;refine⟨_,run_beginRound J (by rw[B]),?_⟩;have be:(j.putObj (w.heap.size+1) (.loop { rec .ready none with state:=.busy })).heap[w.heap.size+1]?=some (.loop { rec .ready none with state:=.busy }):=World.putObj_heap_same bf;have bd:(j.putObj (w.heap.size+1) (.loop { rec .ready none with state:=.busy })).heap[w.heap.size]?=some (.deferred (some [])):=(World.putObj_heap_other (by omega)).trans I;have q:af (fun k=>w.heap.size≤k∧k<w.heap.size+(c+2)) j (j.putObj (w.heap.size+1) (.loop { rec .ready none with state:=.busy })):=(af.refl _ j).putObj (.inl ⟨by omega,by omega⟩) _;refine wpIn_mono (a8 _ _ pre x _ (S _ _ _ hi q) al (by rw[World.putObj_size];omega)) ?_;rintro e q q t
   have fin:∀(jump:Option Code),(∀k,w.heap.size≤k→k<w.heap.size+2+c→q.heap[k]?=(j.putObj (w.heap.size+1) (.loop { rec .ready none with state:=.busy })).heap[k]?) →
     (Instr.endRound (w.heap.size+1) jump).run P q=.ok (.bool jump.isNone) (q.putObj (w.heap.size+1) (.loop (rec (if jump.isNone then .ready else .done) jump))) ∧
     (q.putObj (w.heap.size+1) (.loop (rec (if jump.isNone then .ready else .done) jump))).heap[w.heap.size+1]?=some (.loop (rec (if jump.isNone then .ready else .done) jump)) ∧
     (q.putObj (w.heap.size+1) (.loop (rec (if jump.isNone then .ready else .done) jump))).heap[w.heap.size]?=some (.deferred (some [])) ∧
     (∀k,s.heap.size≤k→k<s.heap.size+c→(q.putObj (w.heap.size+1) (.loop (rec (if jump.isNone then .ready else .done) jump))).heap[k]?=j.heap[k]?):=fun jump L=>by
    have j:=(L _ (by omega) (by omega)).trans be
    have s:=(L _ (by omega) (by omega)).trans bd
    have:=run_endRound (P:=P) jump j
    rw[B]at this ⊢
    refine⟨this,World.putObj_heap_same (Array.getElem?_eq_some_iff.1 j).1,(World.putObj_heap_other (by omega)).trans s,fun k z A=>?_⟩
    rw[World.putObj_heap_other (by omega),L k (by omega) (by omega),World.putObj_heap_other (by omega)]
   have O:∀o,af (fun k=>w.heap.size≤k∧k<w.heap.size+(c+2)) q (q.putObj (w.heap.size+1) o):=fun o=>(af.refl _ q).putObj (.inl ⟨by omega,by omega⟩) o;cases e with
   |normal=>
    obtain⟨L,T,Y⟩:=t;obtain⟨am,ab,Z,ad⟩:=fin none L;rw[World.putObj_size]at T;exact⟨_,_,am,ad,by rw[World.putObj_size];exact T,.inl ⟨rfl,S _ _ _ Y (O _),ab,Z⟩⟩
   |ret=>
    obtain⟨L,T,Y⟩:=t;obtain⟨am,ab,Z,ad⟩:=fin (some .ret) L;rw[World.putObj_size]at T;exact⟨_,_,am,ad,by rw[World.putObj_size];exact T,.inr ⟨rfl,X _ _ _ Y (O _),ab,Z⟩⟩
   |exit id=>exact t.elim
   |goto a1=>exact t.elim
   |panic j=>exact t.elim
   |outgrown=>exact t.elim
  ·rintro e N ⟨⟨v,rfl⟩,(⟨hi,J,I⟩|⟨pre,al,hi,J,I⟩)⟩
   ·have O:∀o,af (fun k=>w.heap.size≤k∧k<w.heap.size+(c+2)) N (N.putObj (w.heap.size+1) o):=fun o=>(af.refl _ N).putObj (.inl ⟨by omega,by omega⟩) o;exact⟨none,_,by have:=run_endLoop (P:=P) J (by rw[B];simp);rw[B]at this;exact this,a' _ (S _ _ _ hi (O _)) ((World.putObj_heap_other (by omega)).trans I)⟩
   ·have O:∀o,af (fun k=>w.heap.size≤k∧k<w.heap.size+(c+2)) N (N.putObj (w.heap.size+1) o):=fun o=>(af.refl _ N).putObj (.inl ⟨by omega,by omega⟩) o;exact⟨some .ret,_,by have:=run_endLoop (P:=P) J (by rw[B];simp);rw[B]at this;exact this,bg pre _ al (X _ _ _ hi (O _)) ((World.putObj_heap_other (by omega)).trans I)⟩
end Go.Proofs.YtafkamlhimkbmaaGreat
