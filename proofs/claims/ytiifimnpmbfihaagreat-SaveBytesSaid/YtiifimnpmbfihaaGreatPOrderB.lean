/-
  perm.Inverse; order.Of, Vars, Perm, Var, Level, Swap.
-/
import Derived.Test.YtiifimnpmbfihaaGreatPBuiltA
import Derived.Test.YtiifimnpmbfihaaGreatPPermX
namespace Go.Proofs.YtiifimnpmbfihaaGreat
set_option linter.unusedSimpArgs false
set_option linter.unusedVariables false
set_option maxHeartbeats 600000
open Go.RowKit

def InvOf (ps qs:List Int):Prop:=qs.length=ps.length ∧ ∀ (i:Nat) (x:Int),ps[i]?=some x → qs[x.toNat]?=some (i:Int)

theorem rowI_made {w:World} {blk n:Nat} (h:w.ownsRow blk 3 1 (.slice (some ⟨blk,0,none⟩) n n) n (madeCells (Value.int .i64 0).cells (n * 1)).toList):RowI w blk (List.replicate n 0):=by
 have e:(madeCells (Value.int .i64 0).cells (n * 1)).toList=(List.replicate n (0:Int)).map (Value.int .i64):=by
  rw [List.map_replicate,Nat.mul_one]
  simp [madeCells,Value.cells,Nat.mod_one]
  rw [List.map_const',List.length_range]
 rw [e] at h
 exact (rowI_owns h).1

set_option maxRecDepth 100000 in
set_option maxHeartbeats 1000000 in
theorem inverse_calls (a:Option Addr) (cap:Nat) (ps:List Int) (w:World) (h:IntsAt w a ps) (hl:ps.length ≤ 1048576) :
  Calls Tryz.prog 81 #[.slice a ps.length cap] w fun e w'=>Keeps w w' ∧
   if permB ps=true then ∃ qs,e=.returned (.tuple #[.slice (some ⟨w.heap.size,0,none⟩) ps.length ps.length,.bool true]) ∧ RowI w' w.heap.size qs ∧ InvOf ps qs
   else e=.returned (.tuple #[.slice none 0 0,.bool false]):=by
 have hR:=fun W (hW:Keeps w W)=>permRight_calls a cap ps W (h.keeps hW) hl
 obtain ⟨N,hN⟩:∃ N,N=ps.length:=⟨_,rfl⟩
 cases hb:permB ps with
 | false=>
  simp only [Bool.false_eq_true,if_false]
  rw [hb,← hN] at hR
  rw [← hN]
  have HR:=Lib.hid hR
  clear hR h hl hb hN
  go_enter Tryz.func81,Tryz.ntmps81
  go_wp2_with (first | (go_at_call 168;refine (HR.out _ (by (exact kp))).mono ?_;rintro e w1 ⟨rfl,rfl⟩) | fail)
  go_ret2
  exact ⟨Keeps.refl _,rfl⟩
 | true=>
  simp only [if_true]
  obtain ⟨h16,hrng,hnd⟩:=permB_iff.1 hb
  rw [hb,← hN] at hR
  rw [← hN] at hl h16 hrng ⊢
  have HR:=Lib.hid hR
  have HN:=Lib.hid hN
  have H:=Lib.hid h
  have HRNG:=Lib.hid hrng
  have HND:=Lib.hid hnd
  obtain ⟨j0,hj,jz0,jz1,jz2⟩:=info_parts info_int
  clear hR h hb hN hrng hnd
  go_enter Tryz.func81,Tryz.ntmps81
  go_wp2_with (first
   | (go_at_call 168;refine (HR.out _ (by (exact kp))).mono ?_;rintro e w1 ⟨rfl,rfl⟩)
   | (at_make;refine wpList_make_full _ rfl _ _ 23 rfl w.heap.size 3 j0 (.int .i64 0) 1 Tryz.underlying23 hj jz0 jz1 .i64 .i64 (N:Int) (N:Int) N rfl rfl rfl rfl (by rw [jz2];omega) (by unfold maxLen;omega) (by simp) ?_;intro w1 hown1 hg1)
   | fail)
  have HB1:=Lib.hid (rowI_made hown1)
  have hkk:Keeps w w1:=⟨hg1.os,hg1.tape,hg1.output,hg1.size,fun i hi=>hg1.block i hi (by simp)⟩
  have HKK:=Lib.hid hkk
  have l1:=HB1.out.lt
  clear hown1 hg1 hkk
  go_loopg [5,6,15] N (fun gk s5 s6 s15 wr=>∃ (d:Nat) (qs:List Int),d + gk=N ∧ s15=.int .i64 (d:Int) ∧ qs.length=N ∧ RowI wr w.heap.size qs ∧ (∀ i x,i < d → ps[i]?=some x → qs[x.toNat]?=some (i:Int)) ∧ Upd (fun j=>j=w.heap.size) w1 wr)
  case atStart=>exact ⟨0,_,by omega,rfl,by simp,HB1.out,fun i x hi=>by omega,Upd.refl _ _⟩
  case round=>
   obtain ⟨d,qs,hd,rfl,hql,hB,hag,hk0⟩:=hrel
   have HB:=Lib.hid hB
   have HQL:=Lib.hid hql
   have HAG:=Lib.hid hag
   have HK0:=Lib.hid hk0
   have hw:Keeps w wr:=HKK.out.new hk0 (fun k hk=>by omega)
   clear hB hql hag hk0
   by_cases hlt:d < N
   ·obtain ⟨x,hx⟩:∃ b,ps[d]?=some b:=⟨_,List.getElem?_eq_getElem (by rw [← HN.out];exact hlt)⟩
    obtain ⟨b,off,rfl,hc0⟩:=H.out d x hx
    have hc:=hw.cell hc0
    obtain ⟨hx0,hx1⟩:=HRNG.out x (List.mem_of_getElem? hx)
    have HX:=Lib.hid hx
    obtain ⟨X,rfl⟩:∃ X:Nat,x=(X:Int):=⟨x.toNat,by omega⟩
    obtain ⟨y,hy⟩:∃ b,qs[X]?=some b:=⟨_,List.getElem?_eq_getElem (by rw [HQL.out];omega)⟩
    have hcy:=HB.out.cell hy
    have hfy:=HB.out.frozen X
    clear hc0 hx hy
    go_wp2_with fail
    go_roundg (gk - 1)
    case rel=>
     refine ⟨d + 1,qs.set X (d:Int),by omega,by simp,by rw [List.length_set,HQL.out],?_,fun i z hi hz=>?_,?_⟩
     ·exact HB.out.set X (d:Int) (by rw [HQL.out];omega)
     ·by_cases hid:i=d
      ·subst hid
       rw [HX.out] at hz
       cases hz
       rw [Int.toNat_natCast,List.getElem?_set_self (by rw [HQL.out];omega)]
      ·have hne:z.toNat ≠ X:=fun e=>by
        have hz0:=(HRNG.out z (List.mem_of_getElem? hz)).1
        have hzX:z=(X:Int):=by omega
        rw [hzX] at hz
        obtain ⟨l1,e1⟩:=List.getElem?_eq_some_iff.1 hz
        obtain ⟨l2,e2⟩:=List.getElem?_eq_some_iff.1 HX.out
        exact hid (List.getElem_inj HND.out |>.1 (e1.trans e2.symm))
       rw [List.getElem?_set_ne (fun e=>hne e.symm)]
       exact HAG.out i z (by omega) hz
     ·exact HK0.out.setCell (.inl rfl) _
    case measure=>omega
   ·have hd2:d=N:=by omega
    have hq:InvOf ps qs:=⟨by rw [HQL.out,HN.out],fun i x hx=>HAG.out i x (by have:=(List.getElem?_eq_some_iff.1 hx).1;have:=HN.out;omega) hx⟩
    have HQ:=Lib.hid hq
    clear hd2 hq
    go_wp2_with fail
    go_ret2
    exact ⟨hw,qs,rfl,HB.out,HQ.out⟩

structure OrdRep (F:Nat → Prop) (w:World) (ob:Nat) (ps:List Int):Prop where
 lies:∃ va vc lg lc qs,w.heap[ob]?=some (.cells #[.slice va ps.length vc,.slice (some ⟨lg,0,none⟩) ps.length lc] 156 (0,0)) ∧ InvOf ps qs ∧
  (ps ≠ [] → ∃ vg,va=some ⟨vg,0,none⟩ ∧ RowI w vg ps ∧ F vg ∧ vg ≠ lg) ∧ RowI w lg qs ∧ F lg
 own:F ob
 lt:∀ k,F k → k < w.heap.size
 perm:permB ps=true

theorem OrdRep.keep {F G:Nat → Prop} {w W:World} {ob:Nat} {ps:List Int} (h:OrdRep F w ob ps) (hu:Upd G w W) (hd:∀ k,F k → ¬ G k):OrdRep F W ob ps:=by
 obtain ⟨⟨va,vc,lg,lc,qs,h1,h2,h3,h4,h5⟩,a1,a2,a3⟩:=h
 refine ⟨⟨va,vc,lg,lc,qs,(hu.block ob (lt_of_heap h1) (hd _ a1)).trans h1,h2,fun hn=>?_,h4.keep hu (hd _ h5),h5⟩,a1,fun k hk=>Nat.lt_of_lt_of_le (a2 k hk) hu.size,a3⟩
 obtain ⟨vg,q1,q2,q3,q4⟩:=h3 hn
 exact ⟨vg,q1,q2.keep hu (hd _ q3),q3,q4⟩

theorem OrdRep.keeps {F:Nat → Prop} {w W:World} {ob:Nat} {ps:List Int} (h:OrdRep F w ob ps) (hu:Keeps w W):OrdRep F W ob ps:=h.keep (hu.upd (fun _=>False)) (fun _ _ h=>h)

set_option maxRecDepth 100000 in
theorem orderOf_calls (a:Option Addr) (cap:Nat) (ps:List Int) (w:World) (h:IntsAt w a ps) (hl:ps.length ≤ 1048576) :
  Calls Tryz.prog 17 #[.slice a ps.length cap] w fun e w'=>Keeps w w' ∧
   if permB ps=true then ∃ ob F,e=.returned (.tuple #[.pointer (some ⟨ob,0,none⟩),.int .u8 0]) ∧ OrdRep F w' ob ps ∧ (∀ k,F k → w.heap.size ≤ k)
   else e=.returned (.tuple #[.pointer none,.int .u8 1]):=by
 have hI:=fun W (hW:Keeps w W)=>inverse_calls a cap ps W (h.keeps hW) hl
 have hC:=fun W (hW:Keeps w W)=>clone_calls a cap ps W (h.keeps hW) hl
 obtain ⟨N,hN⟩:∃ N,N=ps.length:=⟨_,rfl⟩
 cases hb:permB ps with
 | false=>
  simp only [Bool.false_eq_true,if_false]
  simp only [hb,Bool.false_eq_true,if_false,← hN] at hI
  rw [← hN]
  have HI:=Lib.hid hI
  clear hI h hl hb hN hC
  go_enter Tryz.func17,Tryz.ntmps17
  go_wp2_with (first | (go_at_call 81;refine (HI.out _ (by (exact kp))).mono ?_;rintro e w1 ⟨hk,rfl⟩) | fail)
  go_ret2
  exact ⟨hk,rfl⟩
 | true=>
  simp only [if_true]
  simp only [hb,if_true,← hN] at hI
  rw [← hN] at hC ⊢
  have HI:=Lib.hid hI
  have HC:=Lib.hid hC
  have HB:=Lib.hid hb
  have HN:=Lib.hid hN
  clear hI h hl hb hN hC
  go_enter Tryz.func17,Tryz.ntmps17
  go_wp2_with (first | (go_at_call 81;refine (HI.out _ (by (exact kp))).mono ?_;rintro e w1 ⟨hk1,qs,rfl,hr1,hq1⟩) | fail)
  have l1:=hr1.lt
  refine (HC.out _ hk1).mono ?_
  rintro e w2 ⟨va,vc,rfl,hr2,hk2⟩
  go_wp2_with fail
  go_ret2
  have hk3:Keeps w2 (w2.alloc (.cells #[.slice va N vc,.slice (some ⟨w.heap.size,0,none⟩) N N] 156)):=(Keeps.refl _).alloc _
  have l2:=hk2.size
  refine ⟨(hk1.trans hk2).trans hk3,w2.heap.size,fun k=>w.heap.size ≤ k ∧ k ≤ w2.heap.size,rfl,⟨⟨va,vc,w.heap.size,N,qs,?_,hq1,fun hn=>?_,(hr1.keeps hk2).keeps hk3,by omega⟩,by omega,fun k hk=>by simp;omega,HB.out⟩,fun k hk=>hk.1⟩
  ·rw [← HN.out]
   exact heap_alloc_new w2 _
  ·obtain ⟨vg,e1,e2,e3⟩:=hr2 hn
   have:=e3.lt
   exact ⟨vg,e1,e3.keeps hk3,by omega,by omega⟩

end Go.Proofs.YtiifimnpmbfihaaGreat
