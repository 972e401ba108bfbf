/-
  How many ids; a store alone; plainly.
-/
import Derived.Test.YtafkamlhimkbmaaGreatPHPlainA
import Derived.Test.YtafkamlhimkbmaaGreatPSweepA
import Derived.Maps.AppendAt
namespace Go.Proofs.YtafkamlhimkbmaaGreat
set_option maxRecDepth 1000000
set_option maxHeartbeats 8000000
set_option linter.unusedSimpArgs false
set_option linter.unusedVariables false
open Go.RowKit

theorem vE {F:Nat→Prop}{w:World}{T:Nat}{M:St}(h:ag F w T M):((bP M.cs).length:Int)=M.len:=by
 have T:=h.b2;obtain⟨⟨am,ib,ts,ab,ad,av,aw,T,a1,z,_⟩,_⟩:=h;have Y:=T.ok.c8
 have E:(ts.filterMap (fun o=>o.map Prod.snd)).length=occ ts:=by
  rw[List.length_filterMap_eq_countP];unfold occ;refine List.countP_congr (fun o _=>?_);cases o<;>simp
 have O:∀x,x∈ts.filterMap (fun o=>o.map Prod.snd)↔x∈bP M.cs:=by
  intro x;rw[kn,List.mem_filterMap];constructor
  ·rintro⟨o,X,j⟩;cases o with
   |none=>simp at j
   |some p=>
    obtain⟨r,id⟩:=p;simp at j;subst j;obtain⟨i,hi⟩:=List.getElem?_of_mem X;rw[(z r id).1 ⟨i,hi⟩];simp
  ·intro j;cases E:look M.cs x with
   |none=>exact absurd E j
   |some r=>
    obtain⟨i,hi⟩:=(z r x).2 E;exact⟨_,List.mem_of_getElem? hi,rfl⟩
 have W:(ts.filterMap (fun o=>o.map Prod.snd)).Nodup:=by
  unfold List.Nodup;rw[List.pairwise_filterMap,List.pairwise_iff_getElem];intro i A hi U E x j y s e;subst e;cases I:ts[i]with
  |none=>rw[I]at j;simp at j
  |some p=>
   cases J:ts[A]with
   |none=>rw[J]at s;simp at s
   |some Z=>
    rw[I]at j;rw[J]at s;obtain⟨r,id⟩:=p;obtain⟨S,q⟩:=Z;simp at j s;subst j;subst s;have K:ah.at ts i r q:=(by unfold ah.at;rw[List.getElem?_eq_getElem hi,I]);have L:ah.at ts A S q:=(by unfold ah.at;rw[List.getElem?_eq_getElem U,J]);have N:=(z r q).1 ⟨i,K⟩;have t:=(z S q).1 ⟨A,L⟩;rw[N]at t;cases t;have:=Y i A r q q K L;omega
 have N:=pO W (fun x j=>(O x).1 j);have t:=pO (jI (l7 M.cs 2)) (fun x j=>(O x).2 j);have j:(bP M.cs).length≤(ts.filterMap (fun o=>o.map Prod.snd)).length:=t;omega

theorem yc (M:St)(roots:List Int):(aN M.cs roots).length+(dg M roots).length=(bP M.cs).length:=by
 have q:aN M.cs roots=(bP M.cs).filter (fun x=>decide (x∈aN M.cs roots)):=by
  refine mW (iV _ _) (List.Pairwise.filter _ (l7 M.cs 2)) (fun x=>?_);rw[List.mem_filter,kn];simp only[decide_eq_true_eq];exact⟨fun j=>⟨(eG.1 j).some,j⟩,fun j=>j.2⟩
 have s:(aN M.cs roots).length=(bP M.cs).countP (fun x=>decide (x∈aN M.cs roots)):=by
  rw[List.countP_eq_length_filter,←q]
 have t:(dg M roots).length=(bP M.cs).countP (fun x=>!decide (x∈aN M.cs roots)):=by
  rw[List.countP_eq_length_filter];rfl
 rw[s,t,List.length_eq_countP_add_countP (p:=fun x=>decide (x∈aN M.cs roots))];congr 1
 refine List.countP_congr (fun x _=>?_);simp

theorem yX {M A:St}(q:au M A){roots:List Int}{id:Int}(h:Reaches M.cs roots id):Reaches A.cs roots id:=by
 intro A hS E;refine h A (fun x z t=>?_) (fun x r z t=>?_)
 ·cases j:look M.cs x with
  |none=>exact absurd j t
  |some r=>exact hS x z (by rw[q.sub _ _ j];simp)
 ·have A:=E x r z (q.sub _ _ t);refine⟨fun s=>A.1 ?_,fun s=>A.2 ?_⟩
  ·cases j:look M.cs r.lo.to with
   |none=>exact absurd j s
   |some I=>rw[q.sub _ _ j];simp
  ·cases j:look M.cs r.hi.to with
   |none=>exact absurd j s
   |some I=>rw[q.sub _ _ j];simp

open Go.RowKit Go.Shelf

attribute [local go_sem] Oper.semAt_some

theorem te {q s:World}{v u:Value}{j B:Nat}{o:Obj}(t:(q.alloc o).grownBy s v.ownBlock)(K:∀k,v.ownBlock=some k→B≤k)(z:j<B)(A:q.cell? ⟨j,0,none⟩=some u)(E:q.frozen? ⟨j,0,none⟩=false) :
  ae (fun k=>v.ownBlock=some k) q s∧s.cell? ⟨j,0,none⟩=some u∧s.frozen? ⟨j,0,none⟩=false:=by
 have J:ae (fun k=>v.ownBlock=some k) (q.alloc o) s:=⟨t.os,t.tape,t.output,t.size,fun k I z=>t.block k I (fun e=>z e.symm)⟩
 have t:ae (fun k=>v.ownBlock=some k) q s:=((ae.refl _ q).alloc o).a' J
 have z:¬(v.ownBlock=some j):=fun q=>by have:=K _ q;omega
 exact⟨t,t.cellAt z A,(World.frozen?_of_block (a:=⟨j,0,none⟩) (t.block j (aD A) z)).trans E⟩

theorem rZ (j:Nat)(w:World):Calls Tryz.prog 165 #[.pointer (some ⟨j,0,none⟩)] w fun e q=>
  e=.returned (.func (.func 209) #[] #[.pointer (some ⟨w.heap.size,0,none⟩)])∧q.cell? ⟨w.heap.size,0,none⟩=some (.pointer (some ⟨j,0,none⟩))∧aa w q:=by
 go_enter Tryz.func165,Tryz.ntmps165
 go_wp2
 go_ret
 exact⟨rfl,by simp[go_sem],by(exact kp)⟩

theorem vD (args:Array Value)(w:World):(callFunc 209 args).run Tryz.prog w=.ok (.enter 209 args) w:=enters_of Tryz.func209 (by kernel_rfl) rfl args w

end Go.Proofs.YtafkamlhimkbmaaGreat
