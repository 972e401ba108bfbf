/-
  Rows of ints of one's own; slices.Clone, perm.Inverse, order.Of.
-/
import Derived.Test.YtiifimnpmbfihaaGreatPPermW
import Derived.Lib.SliceRun
namespace Go.Proofs.YtiifimnpmbfihaaGreat
set_option linter.unusedSimpArgs false
set_option linter.unusedVariables false
set_option maxHeartbeats 600000
open Go.RowKit

def RowI (w:World) (g:Nat) (ps:List Int):Prop:=∃ cur:Array Value,w.heap[g]?=some (.cells cur 3 (0,0)) ∧ ∀ (i:Nat) (x:Int),ps[i]?=some x → cur[i]?=some (Value.int .i64 x)

theorem RowI.cell {w:World} {g:Nat} {ps:List Int} (h:RowI w g ps) {i:Nat} {x:Int} (hx:ps[i]?=some x):w.cell? ⟨g,i,none⟩=some (.int .i64 x):=by
 obtain ⟨cur,h1,h2⟩:=h
 rw [cell_of_row w g i _ _ _ h1]
 simp only [h2 i x hx]

theorem RowI.frozen {w:World} {g:Nat} {ps:List Int} (h:RowI w g ps) (i:Nat):w.frozen? ⟨g,i,none⟩=false:=by
 obtain ⟨cur,h1,h2⟩:=h
 exact frozen_of_row w g i _ _ h1

theorem RowI.lt {w:World} {g:Nat} {ps:List Int} (h:RowI w g ps):g < w.heap.size:=by
 obtain ⟨cur,h1,h2⟩:=h
 exact lt_of_heap h1

theorem RowI.keep {G:Nat → Prop} {w w':World} {g:Nat} {ps:List Int} (h:RowI w g ps) (hu:Upd G w w') (hg:¬ G g):RowI w' g ps:=by
 have hl:=h.lt
 obtain ⟨cur,h1,h2⟩:=h
 exact ⟨cur,(hu.block g hl hg).trans h1,h2⟩

theorem RowI.keeps {w w':World} {g:Nat} {ps:List Int} (h:RowI w g ps) (hk:Keeps w w'):RowI w' g ps:=h.keep (hk.upd (fun _=>False)) (fun h=>h)

theorem RowI.ints {w:World} {g:Nat} {ps:List Int} (h:RowI w g ps):IntsAt w (some ⟨g,0,none⟩) ps:=fun i x hx=>⟨g,0,rfl,by rw [Nat.zero_add];exact h.cell hx⟩

theorem RowI.set {w:World} {g:Nat} {ps:List Int} (h:RowI w g ps) (i:Nat) (y:Int) (hi:i < ps.length):RowI (w.setCell ⟨g,i,none⟩ (.int .i64 y)) g (ps.set i y):=by
 obtain ⟨cur,h1,h2⟩:=h
 refine ⟨_,Go.heap_setCell_same w g i _ _ (.int .i64 y) h1,fun j x hx=>?_⟩
 rw [Array.getElem?_setIfInBounds]
 by_cases hj:i=j
 ·subst hj
  have hc:=h2 i ps[i] (by simp [hi])
  have hs:i < cur.size:=(Array.getElem?_eq_some_iff.1 hc).1
  rw [if_pos rfl,if_pos hs]
  simp [hi] at hx
  rw [hx]
 ·rw [if_neg hj]
  rw [List.getElem?_set_ne hj] at hx
  exact h2 j x hx

theorem rowI_owns {w:World} {lo:Nat} {g:Nat} {n cap:Nat} {ps:List Int} (hown:w.ownsRow lo 3 1 (.slice (some ⟨g,0,none⟩) n cap) n (ps.map (Value.int .i64))):RowI w g ps ∧ lo ≤ g:=by
 obtain ⟨cur0,hcur0⟩:=owns_type hown (k:=g) rfl
 rcases hown.2 with ⟨h0,_⟩ | ⟨g',cap',cur,hv,hb,hg,_,_,hs,ht⟩
 ·cases h0
 ·cases hv
  refine ⟨⟨cur,hg,fun i x hx=>?_⟩,hb⟩
  have h1:(ps.map (Value.int .i64))[i]?=some (.int .i64 x):=by rw [List.getElem?_map,hx];rfl
  rw [← ht,List.getElem?_take] at h1
  split at h1
  ·rw [Array.getElem?_toList] at h1
   exact h1
  ·cases h1

def RowV (lo:Nat) (w:World) (a:Option Addr) (ps:List Int):Prop:=ps ≠ [] → ∃ g,a=some ⟨g,0,none⟩ ∧ lo ≤ g ∧ RowI w g ps

theorem RowV.ints {lo:Nat} {w:World} {a:Option Addr} {ps:List Int} (h:RowV lo w a ps):IntsAt w a ps:=fun i x hx=>by
 obtain ⟨g,ha,_,hr⟩:=h (fun e=>by rw [e] at hx;simp at hx)
 rw [ha]
 exact hr.ints i x hx

theorem info_int:(Tryz.prog.info? 3).map (fun i=>(i.zero,i.size,i.bytes))=some (some (.int .i64 0),1,8):=by kernel_rfl

theorem owns_none (w:World) (t:TypeId):(w.alloc (.cells #[] t)).ownsRow w.heap.size t 1 (.slice (some ⟨w.heap.size,0,none⟩) 0 0) 0 []:=
 ⟨rfl,.inr ⟨w.heap.size,0,#[],rfl,Nat.le_refl _,heap_alloc_new w _,Nat.le_refl _,by unfold maxLen;omega,rfl,rfl⟩⟩

set_option maxRecDepth 100000 in
theorem clone_calls (a:Option Addr) (cap:Nat) (ps:List Int) (w:World) (h:IntsAt w a ps) (hl:ps.length ≤ 1048576) :
  Calls Tryz.prog 82 #[.slice a ps.length cap] w fun e w'=>∃ a' cap',e=.returned (.slice a' ps.length cap') ∧ RowV w.heap.size w' a' ps ∧ Keeps w w':=by
 cases a with
 | none=>
  have hp:ps=[]:=by
   cases ps with
   | nil=>rfl
   | cons x l=>obtain ⟨b,off,ha,_⟩:=h 0 x rfl;cases ha
  subst hp
  clear h hl
  rw [List.length_nil]
  have hnil:=fun (W:World)=>Lib.run_eql_slice_nil (P:=Tryz.prog) W 23 3 none 0 cap 0 0 Tryz.underlying23
  go_enter Tryz.func82,Tryz.ntmps82
  go_wp2
  go_ret
  exact ⟨none,0,rfl,fun hn=>absurd rfl hn,Keeps.refl _⟩
 | some ad=>
  obtain ⟨i0,hi,hz0,hz1,hz2⟩:=info_parts info_int
  have hcells:∀ j u,(ps.map (Value.int .i64))[j]?=some u → w.cell? (ad.add j)=some u:=fun j u hj=>by
   rw [List.getElem?_map,Option.map_eq_some_iff] at hj
   obtain ⟨x,hx,rfl⟩:=hj
   obtain ⟨b,off,ha,hc⟩:=h j x hx
   cases ha
   have hadd:(⟨b,off,none⟩:Addr).add j=⟨b,off + j,none⟩:=by
    unfold Addr.add
    split
    ·rename_i h0
     rw [h0]
     rfl
    ·rfl
   rw [hadd]
   exact hc
  obtain ⟨N,hN⟩:∃ N,N=ps.length:=⟨_,rfl⟩
  rw [← hN] at hl ⊢
  have HC:=Lib.hid hcells
  have HN:=Lib.hid hN
  have h63:0 + N ≤ maxLen:=by unfold maxLen;omega
  clear h hcells hN
  have hnil:=fun (W:World)=>Lib.run_eql_slice_nil (P:=Tryz.prog) W 23 3 (some ad) N cap 0 0 Tryz.underlying23
  go_enter Tryz.func82,Tryz.ntmps82
  go_wp2_with (first
   | (at_builtin;refine wpList_append_fresh rfl _ _ 23 rfl w.heap.size 3 i0 (.int .i64 0) 1 8 Tryz.underlying23 hi hz0 hz1 hz2 rfl (by decide) (.slice (some ⟨w.heap.size,0,none⟩) 0 0) 0 [] rfl (owns_none w 3) ad N cap (ps.map (Value.int .i64)) rfl (by rw [List.length_map,← HN.out,Nat.mul_one]) (fun j u hj=>((Keeps.refl w).alloc _).cell (HC.out j u hj)) (fun u hu=>by rw [List.mem_map] at hu;obtain ⟨x,_,rfl⟩:=hu;rfl) h63 (by omega) (by simp) ?_;intro v' w3 hown3 hg3 hnew)
   | fail)
  obtain ⟨a',cap',rfl,ha'⟩:=owns_slice hown3
  go_wp2_with fail
  go_ret
  refine ⟨a',cap',by simp,fun hn=>?_,?_⟩
  ·obtain ⟨g,rfl⟩:=ha' (by rw [Nat.zero_add,HN.out];intro e;exact hn (List.length_eq_zero_iff.1 e))
   rw [List.nil_append] at hown3
   obtain ⟨r1,r2⟩:=rowI_owns hown3
   exact ⟨g,rfl,r2,r1⟩
  ·have hu:Upd (fun k=>k=w.heap.size) (w.alloc (.cells #[] 3)) w3:=⟨hg3.os,hg3.tape,hg3.output,hg3.size,fun k hk hn=>hg3.block k hk (fun e=>by simp [Value.ownBlock] at e;exact hn e)⟩
   exact ((((Keeps.refl w).alloc (.cells #[] 3)).upd _).trans' hu).keeps (fun k hk e=>by omega)

end Go.Proofs.YtiifimnpmbfihaaGreat
