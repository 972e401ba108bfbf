/-
  Rows of ints of one's own; slices.Clone, perm.Inverse, order.Of.
-/
import Derived.Test.YtpgcbmbnognieaaGreatPBuiltA
import Derived.Test.YtpgcbmbnognieaaGreatPPermW
import Derived.Lib.SliceRun
import Derived.RegionTactic
namespace Go.Proofs.YtpgcbmbnognieaaGreat
set_option linter.unusedSimpArgs false
set_option linter.unusedVariables false
set_option maxHeartbeats 600000
open Go.RowKit

def RowI (w:World) (g:Nat) (ps:List Int):Prop:=∃ cur:Array Value,w.heap[g]?=some (.cells cur 3 (0,0)) ∧ ∀ (i:Nat) (x:Int),ps[i]?=some x → cur[i]?=some (Value.int .i64 x)

theorem RowI.cell {w:World} {g:Nat} {ps:List Int} (h:RowI w g ps) {i:Nat} {x:Int} (hx:ps[i]?=some x):w.cell? ⟨g,i,none⟩=some (.int .i64 x):=by
 obtain ⟨cur,h1,h2⟩:=h
 rw [cell_of_row w g i _ _ _ h1]
 simp only [h2 i x hx]

theorem RowI.frozen {w:World} {g:Nat} {ps:List Int} (h:RowI w g ps) (i:Nat):w.frozen? ⟨g,i,none⟩=false:=by
 obtain ⟨cur,h1,h2⟩:=h
 exact frozen_of_row w g i _ _ h1

theorem RowI.lt {w:World} {g:Nat} {ps:List Int} (h:RowI w g ps):g < w.heap.size:=by
 obtain ⟨cur,h1,h2⟩:=h
 exact lt_of_heap h1

theorem RowI.keep {G:Nat → Prop} {w w':World} {g:Nat} {ps:List Int} (h:RowI w g ps) (hu:Upd G w w') (hg:¬ G g):RowI w' g ps:=by
 have hl:=h.lt
 obtain ⟨cur,h1,h2⟩:=h
 exact ⟨cur,(hu.block g hl hg).trans h1,h2⟩

theorem RowI.keeps {w w':World} {g:Nat} {ps:List Int} (h:RowI w g ps) (hk:Keeps w w'):RowI w' g ps:=h.keep (hk.upd (fun _=>False)) (fun h=>h)

theorem RowI.ints {w:World} {g:Nat} {ps:List Int} (h:RowI w g ps):IntsAt w (some ⟨g,0,none⟩) ps:=fun i x hx=>⟨g,0,rfl,by rw [Nat.zero_add];exact h.cell hx⟩

theorem RowI.set {w:World} {g:Nat} {ps:List Int} (h:RowI w g ps) (i:Nat) (y:Int) (hi:i < ps.length):RowI (w.setCell ⟨g,i,none⟩ (.int .i64 y)) g (ps.set i y):=by
 obtain ⟨cur,h1,h2⟩:=h
 refine ⟨_,Go.heap_setCell_same w g i _ _ (.int .i64 y) h1,fun j x hx=>?_⟩
 rw [Array.getElem?_setIfInBounds]
 by_cases hj:i=j
 ·subst hj
  have hc:=h2 i ps[i] (by simp [hi])
  have hs:i < cur.size:=(Array.getElem?_eq_some_iff.1 hc).1
  rw [if_pos rfl,if_pos hs]
  simp [hi] at hx
  rw [hx]
 ·rw [if_neg hj]
  rw [List.getElem?_set_ne hj] at hx
  exact h2 j x hx

theorem rowI_owns {w:World} {lo:Nat} {g:Nat} {n cap:Nat} {ps:List Int} (hown:w.ownsRow lo 3 1 (.slice (some ⟨g,0,none⟩) n cap) n (ps.map (Value.int .i64))):RowI w g ps ∧ lo ≤ g:=by
 obtain ⟨cur0,hcur0⟩:=owns_type hown (k:=g) rfl
 rcases hown.2 with ⟨h0,_⟩ | ⟨g',cap',cur,hv,hb,hg,_,_,hs,ht⟩
 ·cases h0
 ·cases hv
  refine ⟨⟨cur,hg,fun i x hx=>?_⟩,hb⟩
  have h1:(ps.map (Value.int .i64))[i]?=some (.int .i64 x):=by rw [List.getElem?_map,hx];rfl
  rw [← ht,List.getElem?_take] at h1
  split at h1
  ·rw [Array.getElem?_toList] at h1
   exact h1
  ·cases h1

def RowV (lo:Nat) (w:World) (a:Option Addr) (ps:List Int):Prop:=ps ≠ [] → ∃ g,a=some ⟨g,0,none⟩ ∧ lo ≤ g ∧ RowI w g ps

theorem RowV.ints {lo:Nat} {w:World} {a:Option Addr} {ps:List Int} (h:RowV lo w a ps):IntsAt w a ps:=fun i x hx=>by
 obtain ⟨g,ha,_,hr⟩:=h (fun e=>by rw [e] at hx;simp at hx)
 rw [ha]
 exact hr.ints i x hx

theorem RowV.keeps {lo:Nat} {w w':World} {a:Option Addr} {ps:List Int} (h:RowV lo w a ps) (hk:Keeps w w'):RowV lo w' a ps:=fun hn=>by
 obtain ⟨g,ha,hl,hr⟩:=h hn
 exact ⟨g,ha,hl,hr.keeps hk⟩

theorem info_int:(Tryz.prog.info? 3).map (fun i=>(i.zero,i.size,i.bytes))=some (some (.int .i64 0),1,8):=by kernel_rfl

theorem owns_none (w:World) (t:TypeId):(w.alloc (.cells #[] t)).ownsRow w.heap.size t 1 (.slice (some ⟨w.heap.size,0,none⟩) 0 0) 0 []:=
 ⟨rfl,.inr ⟨w.heap.size,0,#[],rfl,Nat.le_refl _,heap_alloc_new w _,Nat.le_refl _,by unfold maxLen;omega,rfl,rfl⟩⟩

set_option maxRecDepth 100000 in
theorem clone_calls (a:Option Addr) (cap:Nat) (ps:List Int) (w:World) (h:IntsAt w a ps) (hl:ps.length ≤ 1048576) :
  Calls Tryz.prog 98 #[.slice a ps.length cap] w fun e w'=>∃ a' cap',e=.returned (.slice a' ps.length cap') ∧ RowV w.heap.size w' a' ps ∧ Keeps w w':=by
 cases a with
 | none=>
  have hp:ps=[]:=by
   cases ps with
   | nil=>rfl
   | cons x l=>obtain ⟨b,off,ha,_⟩:=h 0 x rfl;cases ha
  subst hp
  clear h hl
  rw [List.length_nil]
  have hnil:=fun (W:World)=>Lib.run_eql_slice_nil (P:=Tryz.prog) W 38 3 none 0 cap 0 0 Tryz.underlying38
  go_enter Tryz.func98,Tryz.ntmps98
  go_wp2
  go_ret
  exact ⟨none,0,rfl,fun hn=>absurd rfl hn,Keeps.refl _⟩
 | some ad=>
  obtain ⟨i0,hi,hz0,hz1,hz2⟩:=info_parts info_int
  have hcells:∀ j u,(ps.map (Value.int .i64))[j]?=some u → w.cell? (ad.add j)=some u:=fun j u hj=>by
   rw [List.getElem?_map,Option.map_eq_some_iff] at hj
   obtain ⟨x,hx,rfl⟩:=hj
   obtain ⟨b,off,ha,hc⟩:=h j x hx
   cases ha
   have hadd:(⟨b,off,none⟩:Addr).add j=⟨b,off + j,none⟩:=by
    unfold Addr.add
    split
    ·rename_i h0
     rw [h0]
     rfl
    ·rfl
   rw [hadd]
   exact hc
  obtain ⟨N,hN⟩:∃ N,N=ps.length:=⟨_,rfl⟩
  rw [← hN] at hl ⊢
  have HC:=Lib.hid hcells
  have HN:=Lib.hid hN
  have h63:0 + N ≤ maxLen:=by unfold maxLen;omega
  clear h hcells hN
  have hnil:=fun (W:World)=>Lib.run_eql_slice_nil (P:=Tryz.prog) W 38 3 (some ad) N cap 0 0 Tryz.underlying38
  go_enter Tryz.func98,Tryz.ntmps98
  go_wp2_with (first
   | (at_builtin;refine wpList_append_fresh rfl _ _ 38 rfl w.heap.size 3 i0 (.int .i64 0) 1 8 Tryz.underlying38 hi hz0 hz1 hz2 rfl (by decide) (.slice (some ⟨w.heap.size,0,none⟩) 0 0) 0 [] rfl (owns_none w 3) ad N cap (ps.map (Value.int .i64)) rfl (by rw [List.length_map,← HN.out,Nat.mul_one]) (fun j u hj=>((Keeps.refl w).alloc _).cell (HC.out j u hj)) (fun u hu=>by rw [List.mem_map] at hu;obtain ⟨x,_,rfl⟩:=hu;rfl) h63 (by omega) (by simp) ?_;intro v' w3 hown3 hg3 hnew)
   | fail)
  obtain ⟨a',cap',rfl,ha'⟩:=owns_slice hown3
  go_wp2_with fail
  go_ret
  refine ⟨a',cap',by simp,fun hn=>?_,?_⟩
  ·obtain ⟨g,rfl⟩:=ha' (by rw [Nat.zero_add,HN.out];intro e;exact hn (List.length_eq_zero_iff.1 e))
   rw [List.nil_append] at hown3
   obtain ⟨r1,r2⟩:=rowI_owns hown3
   exact ⟨g,rfl,r2,r1⟩
  ·have hu:Upd (fun k=>k=w.heap.size) (w.alloc (.cells #[] 3)) w3:=⟨hg3.os,hg3.tape,hg3.output,hg3.size,fun k hk hn=>hg3.block k hk (fun e=>by simp [Value.ownBlock] at e;exact hn e)⟩
   exact ((((Keeps.refl w).alloc (.cells #[] 3)).upd _).trans' hu).keeps (fun k hk e=>by omega)

open Go

def lateB (ops:Array Oper) (n:Nat):Bool:=
 (List.range ops.size).all fun t=>decide (t ≤ n) || (List.range t).any fun j=>decide (n ≤ j) && Region.waitsFor .any ops t j

section
variable {P:Program} {ops:Array Oper} {w:World}

theorem none_late {n:Nat} {listed:Array Bool} (hs:Region.sinkB .any ops n=true) (hc:lateB ops n=true) (inv:HeadInv .any ops n listed) :
  ∀ (d i:Nat),n - i=d → i < n → listed.getD i true=false → ∀ t ∈ Region.ready .any ops listed,t < n:=by
 intro d
 induction d using Nat.strongRecOn with
 | _ d ih=>
  intro i hd hi hun t hr
  refine Classical.byContradiction fun hlt=>?_
  obtain ⟨_,o,ho,hall⟩:=mem_ready.1 hr
  have hts:t < ops.size:=(Array.getElem?_eq_some_iff.1 ho).1
  rcases Nat.lt_or_ge n t with hnt | hnt
  ·have h1:=List.all_eq_true.1 hc t (List.mem_range.2 hts)
   rw [Bool.or_eq_true] at h1
   rcases h1 with h1 | h1
   ·have:=of_decide_eq_true h1
    omega
   ·obtain ⟨j,hj,h2⟩:=List.any_eq_true.1 h1
    rw [Bool.and_eq_true] at h2
    obtain ⟨o',ho',e,he,hb,hon⟩:=Region.waitsFor_spec h2.2
    obtain rfl:o'=o:=Option.some.inj (ho'.symm.trans ho)
    have h3:=hall e he hb
    rw [hon,getD_both (inv.tail j (of_decide_eq_true h2.1) (by have:=List.mem_range.1 hj;omega))] at h3
    cases h3
  ·obtain rfl:t=n:=by omega
   obtain ⟨j,hj,h2⟩:=List.any_eq_true.1 (List.all_eq_true.1 hs i (List.mem_range.2 hi))
   rw [Bool.and_eq_true] at h2
   have hij:=of_decide_eq_true h2.1
   obtain ⟨o',ho',e,he,hb,hon⟩:=Region.waitsFor_spec h2.2
   have hjr:=List.mem_range.1 hj
   by_cases hjt:j=t
   ·subst hjt
    obtain rfl:o'=o:=Option.some.inj (ho'.symm.trans ho)
    have h3:=hall e he hb
    rw [hon,getD_both hun] at h3
    cases h3
   ·rcases hl:listed.getD j false with _ | _
    ·exact hlt (ih (t - j) (by omega) j rfl (by omega) (getD_in (by rw [inv.size];omega) hl) t hr)
    ·have h3:=inv.closed j o' ho' hl e he hb
     rw [hon,getD_both hun] at h3
     cases h3

theorem head_first {n i:Nat} {oi:Oper} {v:Value} {L:Array Bool → Act → Prop} (hi:ops[i]?=some oi) (hsel:Region.noSelect ops=true) (hs:Region.sinkB .any ops n=true) (hc:lateB ops n=true) (hin:i < n)
  (hend:∀ listed a,L listed a → ∀ j ∈ Region.ready .any ops listed,n ≤ j) :
  ∀ (f:Nat) (listed:Array Bool) (a:Act),HeadInv .any ops n listed →
   (∀ j oj,ops[j]?=some oj → j ≠ i → listed.getD j true=false → (∀ e ∈ oj.after,Region.binds .any e=true → e.on ≠ i) → oi.apart ops oj=true) →
   i ∈ Region.ready .any ops listed → YieldsAt P ops w oi v a →
   wpAnyL P .any ops w n L f (listed.setIfInBounds i true) (a.put oi.dst v) → wpAnyL P .any ops w n L (f + 1) listed a
 | f,listed,a,inv,hfree,hr,hy,H=>by
  have hun:=(mem_ready.1 hr).1
  refine ⟨fun h=>(by rw [h] at hr;cases hr),fun j hj=>?_⟩
  have hjn:=none_late hs hc inv _ i rfl hin hun j hj
  refine ⟨hjn,?_⟩
  by_cases hji:j=i
  ·subst hji
   exact hy.stOp hi H
  ·cases f with
   | zero=>
    have:=hend _ _ H j (ready_mono hj hji)
    omega
   | succ f=>
    obtain ⟨hjun,oj,hoj,hall⟩:=mem_ready.1 hj
    have hno:∀ e ∈ oj.after,Region.binds .any e=true → e.on ≠ i:=fun e he hb heq=>by
     have h1:=hall e he hb
     rw [heq,getD_both hun] at h1
     cases h1
    have h2:=stOp_put hoj (hfree j oj hoj hji hjun hno) (fun cs b=>Region.noSelect_spec hsel i oi cs b hi) (fun cs b=>Region.noSelect_spec hsel j oj cs b hoj) hy (H.2 j (ready_mono hj hji)).2
    refine stOp_mono (fun a' h3=>head_first hi hsel hs hc hin hend f (listed.setIfInBounds j true) a' (inv.set hj hjn) ?_ (ready_mono hr (Ne.symm hji)) h3.1 ?_) h2
    ·intro k ok hk hki hu hn'
     refine hfree k ok hk hki ?_ hn'
     by_cases hjk:j=k
     ·subst hjk
      exact hjun
     ·rwa [getD_set_ne true hjk] at hu
    ·rw [Array.setIfInBounds_comm _ _ hji]
     exact h3.2

def lexTo (ops:Array Oper) (n:Nat) (T:Array Bool):Nat → Nat → Array Bool → Bool
 | 0,_,listed=>decide (listed=T) && (Region.ready .any ops T).all (fun j=>decide (n ≤ j))
 | f + 1,k,listed=>(Region.ready .any ops listed).contains k && Region.free .any ops listed k && lexTo ops n T f (k + 1) (listed.setIfInBounds k true)

theorem head_lex {n:Nat} {T:Array Bool} {G:Act → Prop} (hsel:Region.noSelect ops=true) (hs:Region.sinkB .any ops n=true) (hc:lateB ops n=true) :
  ∀ (l:List Oper) (k:Nat) (listed:Array Bool) (a:Act),(∀ j,j < l.length → l[j]?=ops[k + j]?) → k + l.length=n → HeadInv .any ops n listed → lexTo ops n T l.length k listed=true →
   wpStill P ops w G l a → wpAnyL P .any ops w n (fun listed' a'=>(listed'=T ∧ ∀ j ∈ Region.ready .any ops T,n ≤ j) ∧ G a') l.length listed a
 | [],k,listed,a,_,_,_,hB,h=>by
  simp only [List.length_nil,lexTo,Bool.and_eq_true,decide_eq_true_eq] at hB
  exact ⟨⟨hB.1,fun j hj=>of_decide_eq_true (List.all_eq_true.1 hB.2 j hj)⟩,h⟩
 | o :: l,k,listed,a,hl,hk,inv,hB,h=>by
  have h0:ops[k]?=some o:=by simpa using (hl 0 (by simp)).symm
  simp only [List.length_cons,lexTo,Bool.and_eq_true] at hB
  have hkn:k < n:=by simp only [List.length_cons] at hk;omega
  have hr:k ∈ Region.ready .any ops listed:=by simpa using hB.1.1
  have hst:stOp P ops w k (wpStill P ops w G l) a:=by
   unfold stOp
   simp only [h0]
   exact h
  obtain ⟨v,hy,hK⟩:=yieldsAt_of_stOp h0 hst
  refine head_first h0 hsel hs hc hkn (fun listed' a' hL j hj=>?_) l.length listed a inv (Region.free_spec h0 hB.1.2) hr hy ?_
  ·rw [hL.1.1] at hj
   exact hL.1.2 j hj
  ·exact head_lex hsel hs hc l (k + 1) _ _ (fun j hj=>by have:=hl (j + 1) (by simp;omega);simpa [Nat.add_assoc,Nat.add_comm 1 j] using this) (by simp only [List.length_cons] at hk;omega) (inv.set hr hkn) hB.2 hK

def headB (ops:Array Oper) (n:Nat) (T:Array Bool):Bool:=
 Region.noSelect ops && decide (n < ops.size) && Region.sinkB .any ops n && lateB ops n && lexTo ops n T n 0 (Array.replicate ops.size false)

theorem wp_region_head {id:Nat} {Q:Exit → Act → World → Prop} {a:Act} {l:List Oper} (n:Nat) (T:Array Bool) (hm:P.follows .mixedOrders=true) (hB:headB l.toArray n T=true)
  (h:wpStill P l.toArray w.drew (fun a'=>wpAny P .any l.toArray Q (l.length - n) T a' w.drew) (l.take n) a):(Code.region id l.toArray true).wp P Q a w:=by
 simp only [headB,Bool.and_eq_true,decide_eq_true_eq] at hB
 obtain ⟨⟨⟨⟨hsel,hn⟩,hs⟩,hc⟩,hlex⟩:=hB
 have hn':n < l.length:=by simpa using hn
 have htl:(l.take n).length=n:=by simp;omega
 have inv0:HeadInv .any l.toArray n (Array.replicate l.toArray.size false):=
  ⟨by simp,fun j oj _ hl=>(by rw [getD_replicate_false] at hl;cases hl),fun t _ ht=>getD_in (by simpa using ht) (getD_replicate_false _ _)⟩
 have H:=head_lex hsel hs hc (l.take n) 0 (Array.replicate l.toArray.size false) a (fun j hj=>by
  have hj':j < n:=by rw [htl] at hj;exact hj
  simp [hj']) (by simpa using htl) inv0 (by rw [htl];exact hlex) h
 refine wp_region_any hm ?_
 have:=wpAny_of_head (Q':=Q) (g:=l.length - n) (fun listed a' hL=>by rw [hL.1.1];exact hL.2) _ _ _ H
 rw [htl,show n + (l.length - n)=l.toArray.size by simp;omega] at this
 exact this

end

def InvOf (ps qs:List Int):Prop:=qs.length=ps.length ∧ ∀ (i:Nat) (x:Int),ps[i]?=some x → qs[x.toNat]?=some (i:Int)

theorem rowI_made {w:World} {blk n:Nat} (h:w.ownsRow blk 3 1 (.slice (some ⟨blk,0,none⟩) n n) n (madeCells (Value.int .i64 0).cells (n * 1)).toList):RowI w blk (List.replicate n 0):=by
 have e:(madeCells (Value.int .i64 0).cells (n * 1)).toList=(List.replicate n (0:Int)).map (Value.int .i64):=by
  rw [List.map_replicate,Nat.mul_one]
  simp [madeCells,Value.cells,Nat.mod_one]
  rw [List.map_const',List.length_range]
 rw [e] at h
 exact (rowI_owns h).1

set_option maxRecDepth 100000 in
set_option maxHeartbeats 1000000 in
theorem inverse_calls (a:Option Addr) (cap:Nat) (ps:List Int) (w:World) (h:IntsAt w a ps) (hl:ps.length ≤ 1048576) :
  Calls Tryz.prog 114 #[.slice a ps.length cap] w fun e w'=>Keeps w w' ∧
   if permB ps=true then ∃ qs,e=.returned (.tuple #[.slice (some ⟨w.heap.size,0,none⟩) ps.length ps.length,.bool true]) ∧ RowI w' w.heap.size qs ∧ InvOf ps qs
   else e=.returned (.tuple #[.slice none 0 0,.bool false]):=by
 have hR:=fun W (hW:Keeps w W)=>permRight_calls a cap ps W (h.keeps hW) hl
 obtain ⟨N,hN⟩:∃ N,N=ps.length:=⟨_,rfl⟩
 cases hb:permB ps with
 | false=>
  simp only [Bool.false_eq_true,if_false]
  rw [hb,← hN] at hR
  rw [← hN]
  have HR:=Lib.hid hR
  clear hR h hl hb hN
  go_enter Tryz.func114,Tryz.ntmps114
  go_wp2_with (first | (go_at_call 176;refine (HR.out _ (by (exact kp))).mono ?_;rintro e w1 ⟨rfl,rfl⟩) | fail)
  go_ret2
  exact ⟨Keeps.refl _,rfl⟩
 | true=>
  simp only [if_true]
  obtain ⟨h16,hrng,hnd⟩:=permB_iff.1 hb
  rw [hb,← hN] at hR
  rw [← hN] at hl h16 hrng ⊢
  have HR:=Lib.hid hR
  have HN:=Lib.hid hN
  have H:=Lib.hid h
  have HRNG:=Lib.hid hrng
  have HND:=Lib.hid hnd
  obtain ⟨j0,hj,jz0,jz1,jz2⟩:=info_parts info_int
  clear hR h hb hN hrng hnd
  go_enter Tryz.func114,Tryz.ntmps114
  go_wp2_with (first
   | (go_at_call 176;refine (HR.out _ (by (exact kp))).mono ?_;rintro e w1 ⟨rfl,rfl⟩)
   | (at_make;refine wpList_make_full _ rfl _ _ 38 rfl w.heap.size 3 j0 (.int .i64 0) 1 Tryz.underlying38 hj jz0 jz1 .i64 .i64 (N:Int) (N:Int) N rfl rfl rfl rfl (by rw [jz2];omega) (by unfold maxLen;omega) (by simp) ?_;intro w1 hown1 hg1)
   | fail)
  have HB1:=Lib.hid (rowI_made hown1)
  have hkk:Keeps w w1:=⟨hg1.os,hg1.tape,hg1.output,hg1.size,fun i hi=>hg1.block i hi (by simp)⟩
  have HKK:=Lib.hid hkk
  have l1:=HB1.out.lt
  clear hown1 hg1 hkk
  go_loopg [5,6,15] N (fun gk s5 s6 s15 wr=>∃ (d:Nat) (qs:List Int),d + gk=N ∧ s15=.int .i64 (d:Int) ∧ qs.length=N ∧ RowI wr w.heap.size qs ∧ (∀ i x,i < d → ps[i]?=some x → qs[x.toNat]?=some (i:Int)) ∧ Upd (fun j=>j=w.heap.size) w1 wr)
  case atStart=>exact ⟨0,_,by omega,rfl,by simp,HB1.out,fun i x hi=>by omega,Upd.refl _ _⟩
  case round=>
   obtain ⟨d,qs,hd,rfl,hql,hB,hag,hk0⟩:=hrel
   have HB:=Lib.hid hB
   have HQL:=Lib.hid hql
   have HAG:=Lib.hid hag
   have HK0:=Lib.hid hk0
   have hw:Keeps w wr:=HKK.out.new hk0 (fun k hk=>by omega)
   clear hB hql hag hk0
   by_cases hlt:d < N
   ·obtain ⟨x,hx⟩:∃ b,ps[d]?=some b:=⟨_,List.getElem?_eq_getElem (by rw [← HN.out];exact hlt)⟩
    obtain ⟨b,off,rfl,hc0⟩:=H.out d x hx
    have hc:=hw.cell hc0
    obtain ⟨hx0,hx1⟩:=HRNG.out x (List.mem_of_getElem? hx)
    have HX:=Lib.hid hx
    obtain ⟨X,rfl⟩:∃ X:Nat,x=(X:Int):=⟨x.toNat,by omega⟩
    obtain ⟨y,hy⟩:∃ b,qs[X]?=some b:=⟨_,List.getElem?_eq_getElem (by rw [HQL.out];omega)⟩
    have hcy:=HB.out.cell hy
    have hfy:=HB.out.frozen X
    clear hc0 hx hy
    go_wp2_with fail
    go_roundg (gk - 1)
    case rel=>
     refine ⟨d + 1,qs.set X (d:Int),by omega,by simp,by rw [List.length_set,HQL.out],?_,fun i z hi hz=>?_,?_⟩
     ·exact HB.out.set X (d:Int) (by rw [HQL.out];omega)
     ·by_cases hid:i=d
      ·subst hid
       rw [HX.out] at hz
       cases hz
       rw [Int.toNat_natCast,List.getElem?_set_self (by rw [HQL.out];omega)]
      ·have hne:z.toNat ≠ X:=fun e=>by
        have hz0:=(HRNG.out z (List.mem_of_getElem? hz)).1
        have hzX:z=(X:Int):=by omega
        rw [hzX] at hz
        obtain ⟨l1,e1⟩:=List.getElem?_eq_some_iff.1 hz
        obtain ⟨l2,e2⟩:=List.getElem?_eq_some_iff.1 HX.out
        exact hid (List.getElem_inj HND.out |>.1 (e1.trans e2.symm))
       rw [List.getElem?_set_ne (fun e=>hne e.symm)]
       exact HAG.out i z (by omega) hz
     ·exact HK0.out.setCell (.inl rfl) _
    case measure=>omega
   ·have hd2:d=N:=by omega
    have hq:InvOf ps qs:=⟨by rw [HQL.out,HN.out],fun i x hx=>HAG.out i x (by have:=(List.getElem?_eq_some_iff.1 hx).1;have:=HN.out;omega) hx⟩
    have HQ:=Lib.hid hq
    clear hd2 hq
    go_wp2_with fail
    go_ret2
    exact ⟨hw,qs,rfl,HB.out,HQ.out⟩

structure OrdRep (F:Nat → Prop) (w:World) (ob:Nat) (ps:List Int):Prop where
 lies:∃ va vc lg lc qs,w.heap[ob]?=some (.cells #[.slice va ps.length vc,.slice (some ⟨lg,0,none⟩) ps.length lc] 175 (0,0)) ∧ InvOf ps qs ∧
  (ps ≠ [] → ∃ vg,va=some ⟨vg,0,none⟩ ∧ RowI w vg ps ∧ F vg ∧ vg ≠ lg) ∧ RowI w lg qs ∧ F lg
 own:F ob
 lt:∀ k,F k → k < w.heap.size
 perm:permB ps=true

theorem OrdRep.keep {F G:Nat → Prop} {w W:World} {ob:Nat} {ps:List Int} (h:OrdRep F w ob ps) (hu:Upd G w W) (hd:∀ k,F k → ¬ G k):OrdRep F W ob ps:=by
 obtain ⟨⟨va,vc,lg,lc,qs,h1,h2,h3,h4,h5⟩,a1,a2,a3⟩:=h
 refine ⟨⟨va,vc,lg,lc,qs,(hu.block ob (lt_of_heap h1) (hd _ a1)).trans h1,h2,fun hn=>?_,h4.keep hu (hd _ h5),h5⟩,a1,fun k hk=>Nat.lt_of_lt_of_le (a2 k hk) hu.size,a3⟩
 obtain ⟨vg,q1,q2,q3,q4⟩:=h3 hn
 exact ⟨vg,q1,q2.keep hu (hd _ q3),q3,q4⟩

theorem OrdRep.keeps {F:Nat → Prop} {w W:World} {ob:Nat} {ps:List Int} (h:OrdRep F w ob ps) (hu:Keeps w W):OrdRep F W ob ps:=h.keep (hu.upd (fun _=>False)) (fun _ _ h=>h)

set_option maxRecDepth 100000 in
theorem orderOf_calls (a:Option Addr) (cap:Nat) (ps:List Int) (w:World) (h:IntsAt w a ps) (hl:ps.length ≤ 1048576) :
  Calls Tryz.prog 55 #[.slice a ps.length cap] w fun e w'=>Keeps w w' ∧
   if permB ps=true then ∃ ob F,e=.returned (.tuple #[.pointer (some ⟨ob,0,none⟩),.int .u8 0]) ∧ OrdRep F w' ob ps ∧ (∀ k,F k → w.heap.size ≤ k)
   else e=.returned (.tuple #[.pointer none,.int .u8 1]):=by
 have hI:=fun W (hW:Keeps w W)=>inverse_calls a cap ps W (h.keeps hW) hl
 have hC:=fun W (hW:Keeps w W)=>clone_calls a cap ps W (h.keeps hW) hl
 obtain ⟨N,hN⟩:∃ N,N=ps.length:=⟨_,rfl⟩
 cases hb:permB ps with
 | false=>
  simp only [Bool.false_eq_true,if_false]
  simp only [hb,Bool.false_eq_true,if_false,← hN] at hI
  rw [← hN]
  have HI:=Lib.hid hI
  clear hI h hl hb hN hC
  go_enter Tryz.func55,Tryz.ntmps55
  go_wp2_with (first | (go_at_call 114;refine (HI.out _ (by (exact kp))).mono ?_;rintro e w1 ⟨hk,rfl⟩) | fail)
  go_ret2
  exact ⟨hk,rfl⟩
 | true=>
  simp only [if_true]
  simp only [hb,if_true,← hN] at hI
  rw [← hN] at hC ⊢
  have HI:=Lib.hid hI
  have HC:=Lib.hid hC
  have HB:=Lib.hid hb
  have HN:=Lib.hid hN
  clear hI h hl hb hN hC
  go_enter Tryz.func55,Tryz.ntmps55
  go_wp2_with (first | (go_at_call 114;refine (HI.out _ (by (exact kp))).mono ?_;rintro e w1 ⟨hk1,qs,rfl,hr1,hq1⟩) | fail)
  have l1:=hr1.lt
  refine (HC.out _ hk1).mono ?_
  rintro e w2 ⟨va,vc,rfl,hr2,hk2⟩
  go_wp2_with fail
  go_ret2
  have hk3:Keeps w2 (w2.alloc (.cells #[.slice va N vc,.slice (some ⟨w.heap.size,0,none⟩) N N] 175)):=(Keeps.refl _).alloc _
  have l2:=hk2.size
  refine ⟨(hk1.trans hk2).trans hk3,w2.heap.size,fun k=>w.heap.size ≤ k ∧ k ≤ w2.heap.size,rfl,⟨⟨va,vc,w.heap.size,N,qs,?_,hq1,fun hn=>?_,(hr1.keeps hk2).keeps hk3,by omega⟩,by omega,fun k hk=>by simp;omega,HB.out⟩,fun k hk=>hk.1⟩
  ·rw [← HN.out]
   exact heap_alloc_new w2 _
  ·obtain ⟨vg,e1,e2,e3⟩:=hr2 hn
   have:=e3.lt
   exact ⟨vg,e1,e3.keeps hk3,by omega,by omega⟩

end Go.Proofs.YtpgcbmbnognieaaGreat
