/-
  perm.Inverse; order.Of, Vars, Perm, Var, Level, Swap.
-/
import Derived.Test.YtiifimnpmbfihaaGreatPViewBZ
import Derived.Test.YtiifimnpmbfihaaGreatPViewC
import Derived.Test.YtiifimnpmbfihaaGreatPViewQ
import Derived.Test.YtiifimnpmbfihaaGreatPViewT
namespace Go.Proofs.YtiifimnpmbfihaaGreat
set_option linter.unusedSimpArgs false
set_option linter.unusedVariables false
set_option maxHeartbeats 600000
open Go.RowKit

def InvOf (ps qs:List Int):Prop:=qs.length=ps.length ∧ ∀ (i:Nat) (x:Int),ps[i]?=some x → qs[x.toNat]?=some (i:Int)

theorem rowI_made {w:World} {blk n:Nat} (h:w.ownsRow blk 3 1 (.slice (some ⟨blk,0,none⟩) n n) n (madeCells (Value.int .i64 0).cells (n * 1)).toList):RowI w blk (List.replicate n 0):=by
 have e:(madeCells (Value.int .i64 0).cells (n * 1)).toList=(List.replicate n (0:Int)).map (Value.int .i64):=by
  rw [List.map_replicate,Nat.mul_one]
  simp [madeCells,Value.cells,Nat.mod_one]
  rw [List.map_const',List.length_range]
 rw [e] at h
 exact (rowI_owns h).1

set_option maxRecDepth 100000 in
set_option maxHeartbeats 1000000 in
theorem inverse_calls (a:Option Addr) (cap:Nat) (ps:List Int) (w:World) (h:IntsAt w a ps) (hl:ps.length ≤ 1048576) :
  Calls Tryz.prog 81 #[.slice a ps.length cap] w fun e w'=>Keeps w w' ∧
   if permB ps=true then ∃ qs,e=.returned (.tuple #[.slice (some ⟨w.heap.size,0,none⟩) ps.length ps.length,.bool true]) ∧ RowI w' w.heap.size qs ∧ InvOf ps qs
   else e=.returned (.tuple #[.slice none 0 0,.bool false]):=by
 have hR:=fun W (hW:Keeps w W)=>permRight_calls a cap ps W (h.keeps hW) hl
 obtain ⟨N,hN⟩:∃ N,N=ps.length:=⟨_,rfl⟩
 cases hb:permB ps with
 | false=>
  simp only [Bool.false_eq_true,if_false]
  rw [hb,← hN] at hR
  rw [← hN]
  have HR:=Lib.hid hR
  clear hR h hl hb hN
  go_enter Tryz.func81,Tryz.ntmps81
  go_wp2_with (first | (go_at_call 168;refine (HR.out _ (by (exact kp))).mono ?_;rintro e w1 ⟨rfl,rfl⟩) | fail)
  go_ret2
  exact ⟨Keeps.refl _,rfl⟩
 | true=>
  simp only [if_true]
  obtain ⟨h16,hrng,hnd⟩:=permB_iff.1 hb
  rw [hb,← hN] at hR
  rw [← hN] at hl h16 hrng ⊢
  have HR:=Lib.hid hR
  have HN:=Lib.hid hN
  have H:=Lib.hid h
  have HRNG:=Lib.hid hrng
  have HND:=Lib.hid hnd
  obtain ⟨j0,hj,jz0,jz1,jz2⟩:=info_parts info_int
  clear hR h hb hN hrng hnd
  go_enter Tryz.func81,Tryz.ntmps81
  go_wp2_with (first
   | (go_at_call 168;refine (HR.out _ (by (exact kp))).mono ?_;rintro e w1 ⟨rfl,rfl⟩)
   | (at_make;refine wpList_make_full _ rfl _ _ 23 rfl w.heap.size 3 j0 (.int .i64 0) 1 Tryz.underlying23 hj jz0 jz1 .i64 .i64 (N:Int) (N:Int) N rfl rfl rfl rfl (by rw [jz2];omega) (by unfold maxLen;omega) (by simp) ?_;intro w1 hown1 hg1)
   | fail)
  have HB1:=Lib.hid (rowI_made hown1)
  have hkk:Keeps w w1:=⟨hg1.os,hg1.tape,hg1.output,hg1.size,fun i hi=>hg1.block i hi (by simp)⟩
  have HKK:=Lib.hid hkk
  have l1:=HB1.out.lt
  clear hown1 hg1 hkk
  go_loopg [5,6,15] N (fun gk s5 s6 s15 wr=>∃ (d:Nat) (qs:List Int),d + gk=N ∧ s15=.int .i64 (d:Int) ∧ qs.length=N ∧ RowI wr w.heap.size qs ∧ (∀ i x,i < d → ps[i]?=some x → qs[x.toNat]?=some (i:Int)) ∧ Upd (fun j=>j=w.heap.size) w1 wr)
  case atStart=>exact ⟨0,_,by omega,rfl,by simp,HB1.out,fun i x hi=>by omega,Upd.refl _ _⟩
  case round=>
   obtain ⟨d,qs,hd,rfl,hql,hB,hag,hk0⟩:=hrel
   have HB:=Lib.hid hB
   have HQL:=Lib.hid hql
   have HAG:=Lib.hid hag
   have HK0:=Lib.hid hk0
   have hw:Keeps w wr:=HKK.out.new hk0 (fun k hk=>by omega)
   clear hB hql hag hk0
   by_cases hlt:d < N
   ·obtain ⟨x,hx⟩:∃ b,ps[d]?=some b:=⟨_,List.getElem?_eq_getElem (by rw [← HN.out];exact hlt)⟩
    obtain ⟨b,off,rfl,hc0⟩:=H.out d x hx
    have hc:=hw.cell hc0
    obtain ⟨hx0,hx1⟩:=HRNG.out x (List.mem_of_getElem? hx)
    have HX:=Lib.hid hx
    obtain ⟨X,rfl⟩:∃ X:Nat,x=(X:Int):=⟨x.toNat,by omega⟩
    obtain ⟨y,hy⟩:∃ b,qs[X]?=some b:=⟨_,List.getElem?_eq_getElem (by rw [HQL.out];omega)⟩
    have hcy:=HB.out.cell hy
    have hfy:=HB.out.frozen X
    clear hc0 hx hy
    go_wp2_with fail
    go_roundg (gk - 1)
    case rel=>
     refine ⟨d + 1,qs.set X (d:Int),by omega,by simp,by rw [List.length_set,HQL.out],?_,fun i z hi hz=>?_,?_⟩
     ·exact HB.out.set X (d:Int) (by rw [HQL.out];omega)
     ·by_cases hid:i=d
      ·subst hid
       rw [HX.out] at hz
       cases hz
       rw [Int.toNat_natCast,List.getElem?_set_self (by rw [HQL.out];omega)]
      ·have hne:z.toNat ≠ X:=fun e=>by
        have hz0:=(HRNG.out z (List.mem_of_getElem? hz)).1
        have hzX:z=(X:Int):=by omega
        rw [hzX] at hz
        obtain ⟨l1,e1⟩:=List.getElem?_eq_some_iff.1 hz
        obtain ⟨l2,e2⟩:=List.getElem?_eq_some_iff.1 HX.out
        exact hid (List.getElem_inj HND.out |>.1 (e1.trans e2.symm))
       rw [List.getElem?_set_ne (fun e=>hne e.symm)]
       exact HAG.out i z (by omega) hz
     ·exact HK0.out.setCell (.inl rfl) _
    case measure=>omega
   ·have hd2:d=N:=by omega
    have hq:InvOf ps qs:=⟨by rw [HQL.out,HN.out],fun i x hx=>HAG.out i x (by have:=(List.getElem?_eq_some_iff.1 hx).1;have:=HN.out;omega) hx⟩
    have HQ:=Lib.hid hq
    clear hd2 hq
    go_wp2_with fail
    go_ret2
    exact ⟨hw,qs,rfl,HB.out,HQ.out⟩

structure OrdRep (F:Nat → Prop) (w:World) (ob:Nat) (ps:List Int):Prop where
 lies:∃ va vc lg lc qs,w.heap[ob]?=some (.cells #[.slice va ps.length vc,.slice (some ⟨lg,0,none⟩) ps.length lc] 156 (0,0)) ∧ InvOf ps qs ∧
  (ps ≠ [] → ∃ vg,va=some ⟨vg,0,none⟩ ∧ RowI w vg ps ∧ F vg ∧ vg ≠ lg) ∧ RowI w lg qs ∧ F lg
 own:F ob
 lt:∀ k,F k → k < w.heap.size
 perm:permB ps=true

theorem OrdRep.keep {F G:Nat → Prop} {w W:World} {ob:Nat} {ps:List Int} (h:OrdRep F w ob ps) (hu:Upd G w W) (hd:∀ k,F k → ¬ G k):OrdRep F W ob ps:=by
 obtain ⟨⟨va,vc,lg,lc,qs,h1,h2,h3,h4,h5⟩,a1,a2,a3⟩:=h
 refine ⟨⟨va,vc,lg,lc,qs,(hu.block ob (lt_of_heap h1) (hd _ a1)).trans h1,h2,fun hn=>?_,h4.keep hu (hd _ h5),h5⟩,a1,fun k hk=>Nat.lt_of_lt_of_le (a2 k hk) hu.size,a3⟩
 obtain ⟨vg,q1,q2,q3,q4⟩:=h3 hn
 exact ⟨vg,q1,q2.keep hu (hd _ q3),q3,q4⟩

theorem OrdRep.keeps {F:Nat → Prop} {w W:World} {ob:Nat} {ps:List Int} (h:OrdRep F w ob ps) (hu:Keeps w W):OrdRep F W ob ps:=h.keep (hu.upd (fun _=>False)) (fun _ _ h=>h)

set_option maxRecDepth 100000 in
theorem orderOf_calls (a:Option Addr) (cap:Nat) (ps:List Int) (w:World) (h:IntsAt w a ps) (hl:ps.length ≤ 1048576) :
  Calls Tryz.prog 17 #[.slice a ps.length cap] w fun e w'=>Keeps w w' ∧
   if permB ps=true then ∃ ob F,e=.returned (.tuple #[.pointer (some ⟨ob,0,none⟩),.int .u8 0]) ∧ OrdRep F w' ob ps ∧ (∀ k,F k → w.heap.size ≤ k)
   else e=.returned (.tuple #[.pointer none,.int .u8 1]):=by
 have hI:=fun W (hW:Keeps w W)=>inverse_calls a cap ps W (h.keeps hW) hl
 have hC:=fun W (hW:Keeps w W)=>clone_calls a cap ps W (h.keeps hW) hl
 obtain ⟨N,hN⟩:∃ N,N=ps.length:=⟨_,rfl⟩
 cases hb:permB ps with
 | false=>
  simp only [Bool.false_eq_true,if_false]
  simp only [hb,Bool.false_eq_true,if_false,← hN] at hI
  rw [← hN]
  have HI:=Lib.hid hI
  clear hI h hl hb hN hC
  go_enter Tryz.func17,Tryz.ntmps17
  go_wp2_with (first | (go_at_call 81;refine (HI.out _ (by (exact kp))).mono ?_;rintro e w1 ⟨hk,rfl⟩) | fail)
  go_ret2
  exact ⟨hk,rfl⟩
 | true=>
  simp only [if_true]
  simp only [hb,if_true,← hN] at hI
  rw [← hN] at hC ⊢
  have HI:=Lib.hid hI
  have HC:=Lib.hid hC
  have HB:=Lib.hid hb
  have HN:=Lib.hid hN
  clear hI h hl hb hN hC
  go_enter Tryz.func17,Tryz.ntmps17
  go_wp2_with (first | (go_at_call 81;refine (HI.out _ (by (exact kp))).mono ?_;rintro e w1 ⟨hk1,qs,rfl,hr1,hq1⟩) | fail)
  have l1:=hr1.lt
  refine (HC.out _ hk1).mono ?_
  rintro e w2 ⟨va,vc,rfl,hr2,hk2⟩
  go_wp2_with fail
  go_ret2
  have hk3:Keeps w2 (w2.alloc (.cells #[.slice va N vc,.slice (some ⟨w.heap.size,0,none⟩) N N] 156)):=(Keeps.refl _).alloc _
  have l2:=hk2.size
  refine ⟨(hk1.trans hk2).trans hk3,w2.heap.size,fun k=>w.heap.size ≤ k ∧ k ≤ w2.heap.size,rfl,⟨⟨va,vc,w.heap.size,N,qs,?_,hq1,fun hn=>?_,(hr1.keeps hk2).keeps hk3,by omega⟩,by omega,fun k hk=>by simp;omega,HB.out⟩,fun k hk=>hk.1⟩
  ·rw [← HN.out]
   exact heap_alloc_new w2 _
  ·obtain ⟨vg,e1,e2,e3⟩:=hr2 hn
   have:=e3.lt
   exact ⟨vg,e1,e3.keeps hk3,by omega,by omega⟩

theorem RowI.ne {w:World} {g ob:Nat} {ps:List Int} {cs:Array Value} {q:Nat × Nat} (h:RowI w g ps) (ho:w.heap[ob]?=some (.cells cs 156 q)):g ≠ ob:=by
 obtain ⟨cur,h1,_⟩:=h
 intro e
 subst e
 rw [h1] at ho
 have:=Option.some.inj ho
 injection this with _ e2 _
 exact absurd e2 (by decide)

theorem OrdRep.cells {F:Nat → Prop} {w:World} {ob:Nat} {ps:List Int} (h:OrdRep F w ob ps):∃ va vc lg lc,w.cell? ⟨ob,0,none⟩=some (.slice va ps.length vc) ∧ w.cell? ⟨ob,1,none⟩=some (.slice (some ⟨lg,0,none⟩) ps.length lc) ∧ IntsAt w va ps:=by
 obtain ⟨⟨va,vc,lg,lc,qs,h1,h2,h3,h4,h5⟩,_⟩:=h
 refine ⟨va,vc,lg,lc,by rw [cell_of_row w ob 0 _ _ _ h1];rfl,by rw [cell_of_row w ob 1 _ _ _ h1];rfl,fun i x hx=>?_⟩
 obtain ⟨vg,q1,q2,_⟩:=h3 (fun e=>by rw [e] at hx;simp at hx)
 rw [q1]
 exact q2.ints i x hx

theorem OrdRep.le {F:Nat → Prop} {w:World} {ob:Nat} {ps:List Int} (h:OrdRep F w ob ps):ps.length ≤ 16:=(permB_iff.1 h.perm).1

theorem ordVars_calls {F:Nat → Prop} {w:World} {ob:Nat} {ps:List Int} (h:OrdRep F w ob ps) :
  Calls Tryz.prog 116 #[.pointer (some ⟨ob,0,none⟩)] w fun e w'=>e=.returned (.int .i64 (ps.length:Int)) ∧ w=w':=by
 obtain ⟨va,vc,lg,lc,c0,c1,_⟩:=h.cells
 have hle:=h.le
 obtain ⟨n,hn⟩:∃ n,n=ps.length:=⟨_,rfl⟩
 rw [← hn] at c0 c1 hle ⊢
 clear h c1 hn
 go_enter Tryz.func116,Tryz.ntmps116
 go_wp2
 go_ret
 exact ⟨rfl,rfl⟩

theorem ordPerm_calls {F:Nat → Prop} {w:World} {ob:Nat} {ps:List Int} (h:OrdRep F w ob ps) :
  Calls Tryz.prog 47 #[.pointer (some ⟨ob,0,none⟩)] w fun e w'=>∃ a cap,e=.returned (.slice a ps.length cap) ∧ RowV w.heap.size w' a ps ∧ Keeps w w':=by
 obtain ⟨va,vc,lg,lc,c0,c1,hi⟩:=h.cells
 have hle:=h.le
 have hC:=fun W (hW:Keeps w W)=>clone_calls va vc ps W (hi.keeps hW) (by omega)
 obtain ⟨n,hn⟩:∃ n,n=ps.length:=⟨_,rfl⟩
 rw [← hn] at c0 c1 hC ⊢
 have HC:=Lib.hid hC
 clear h c1 hi hC hle hn
 go_enter Tryz.func47,Tryz.ntmps47
 go_wp2_with (first | (go_at_call 82;refine (HC.out _ (by (exact kp))).mono ?_;rintro e w1 ⟨a,cap,rfl,hr,hk⟩) | fail)
 go_ret
 exact ⟨a,cap,rfl,hr,hk⟩

def stepL (ps:List Int) (i:Nat):List Int:=(ps.set i (ps.getD (i + 1) 0)).set (i + 1) (ps.getD i 0)

theorem stepL_len (ps:List Int) (i:Nat):(stepL ps i).length=ps.length:=by unfold stepL;simp

theorem stepL_get {ps:List Int} {i:Nat} (h:i + 1 < ps.length) (j:Nat):(stepL ps i)[j]?=if j=i then ps[i + 1]? else if j=i + 1 then ps[i]? else ps[j]?:=by
 unfold stepL
 rw [List.getElem?_set,List.getElem?_set]
 have e1:ps[i + 1]?=some (ps.getD (i + 1) 0):=by simp [List.getD,h]
 have e2:ps[i]?=some (ps.getD i 0):=by simp [List.getD,show i < ps.length by omega]
 by_cases hj:j=i
 ·subst hj
  rw [if_neg (by omega),if_pos rfl,if_pos (by omega),if_pos rfl,e1]
 ·by_cases hj2:j=i + 1
  ·subst hj2
   rw [if_pos rfl,if_pos (by simpa using h),if_neg hj,if_pos rfl,e2]
  ·rw [if_neg (by omega),if_neg (by omega),if_neg hj,if_neg hj2]

theorem stepL_mem {ps:List Int} {i:Nat} (h:i + 1 < ps.length) (x:Int):x ∈ stepL ps i ↔ x ∈ ps:=by
 rw [List.mem_iff_getElem?,List.mem_iff_getElem?]
 constructor
 ·rintro ⟨j,hj⟩
  rw [stepL_get h] at hj
  split at hj
  ·exact ⟨_,hj⟩
  ·split at hj
   ·exact ⟨_,hj⟩
   ·exact ⟨_,hj⟩
 ·rintro ⟨j,hj⟩
  by_cases h1:j=i
  ·refine ⟨i + 1,?_⟩
   rw [stepL_get h,if_neg (by omega),if_pos rfl,← h1]
   exact hj
  ·by_cases h2:j=i + 1
   ·refine ⟨i,?_⟩
    rw [stepL_get h,if_pos rfl,← h2]
    exact hj
   ·refine ⟨j,?_⟩
    rw [stepL_get h,if_neg h1,if_neg h2]
    exact hj

theorem nodup_get {ps:List Int} (h:ps.Nodup) {i j:Nat} {x:Int} (hi:ps[i]?=some x) (hj:ps[j]?=some x):i=j:=by
 obtain ⟨l1,e1⟩:=List.getElem?_eq_some_iff.1 hi
 obtain ⟨l2,e2⟩:=List.getElem?_eq_some_iff.1 hj
 exact (List.getElem_inj h).1 (e1.trans e2.symm)

theorem stepL_perm {ps:List Int} {i:Nat} (h:i + 1 < ps.length) (hp:permB ps=true):permB (stepL ps i)=true:=by
 obtain ⟨h1,h2,h3⟩:=permB_iff.1 hp
 refine permB_iff.2 ⟨by rw [stepL_len];exact h1,fun x hx=>by rw [stepL_len];exact h2 x ((stepL_mem h x).1 hx),?_⟩
 refine List.pairwise_iff_getElem.2 fun a b h4 h5 hlt e=>?_
 have ha:(stepL ps i)[a]?=some (stepL ps i)[a]:=List.getElem?_eq_getElem h4
 have hb:(stepL ps i)[b]?=some (stepL ps i)[a]:=by rw [e];exact List.getElem?_eq_getElem h5
 rw [stepL_get h] at ha hb
 have key:∀ {p q:Nat},ps[p]?=some (stepL ps i)[a] → ps[q]?=some (stepL ps i)[a] → p=q:=fun hp hq=>nodup_get h3 hp hq
 split at ha
 ·split at hb
  ·omega
  ·split at hb
   ·have:=key ha hb;omega
   ·have:=key ha hb;omega
 ·split at ha
  ·split at hb
   ·have:=key ha hb;omega
   ·split at hb
    ·omega
    ·have:=key ha hb;omega
  ·split at hb
   ·have:=key ha hb;omega
   ·split at hb
    ·have:=key ha hb;omega
    ·have:=key ha hb;omega

theorem stepL_inv {ps qs:List Int} {i:Nat} {a b:Int} (h:i + 1 < ps.length) (hp:permB ps=true) (hq:InvOf ps qs) (ha:ps[i]?=some a) (hb:ps[i + 1]?=some b) :
  InvOf (stepL ps i) ((qs.set a.toNat ((i:Int) + 1)).set b.toNat (i:Int)):=by
 obtain ⟨h1,h2,h3⟩:=permB_iff.1 hp
 obtain ⟨q1,q2⟩:=hq
 have ra:=h2 a (List.mem_of_getElem? ha)
 have rb:=h2 b (List.mem_of_getElem? hb)
 have hne:a ≠ b:=fun e=>by subst e;have:=nodup_get h3 ha hb;omega
 refine ⟨by rw [List.length_set,List.length_set,stepL_len,q1],fun j x hx=>?_⟩
 rw [stepL_get h] at hx
 rw [List.getElem?_set,List.getElem?_set]
 split at hx
 ·rename_i hj
  rw [hb] at hx
  cases hx
  rw [if_pos rfl,if_pos (by rw [List.length_set,q1];omega),hj]
 ·rename_i hj
  split at hx
  ·rename_i hj2
   rw [ha] at hx
   cases hx
   rw [if_neg (by omega),if_pos rfl,if_pos (by rw [q1];omega),hj2]
   push_cast
   rfl
  ·rename_i hj2
   have rx:=h2 x (List.mem_of_getElem? hx)
   have n1:x ≠ a:=fun e=>by subst e;exact hj (nodup_get h3 hx ha)
   have n2:x ≠ b:=fun e=>by subst e;exact hj2 (nodup_get h3 hx hb)
   rw [if_neg (by omega),if_neg (by omega)]
   exact q2 j x hx

set_option maxRecDepth 100000 in
set_option maxHeartbeats 2000000 in
theorem ordSwap_calls {F:Nat → Prop} {w:World} {ob:Nat} {ps:List Int} (h:OrdRep F w ob ps) (lv:Nat) (hlv:lv + 1 < ps.length) :
  Calls Tryz.prog 216 #[.pointer (some ⟨ob,0,none⟩),.int .i64 (lv:Int)] w fun e w'=>e=.returned (.int .u8 0) ∧ Upd F w w' ∧ OrdRep F w' ob (stepL ps lv):=by
 have H:=Lib.hid h
 have hle:=h.le
 obtain ⟨⟨va,vc,lg,lc,qs,h1,h2,h3,h4,h5⟩,h6,h7,h8⟩:=h
 obtain ⟨vg,rfl,v1,v2,v3⟩:=h3 (fun e=>by rw [e] at hlv;simp at hlv)
 obtain ⟨p1,p2,p3⟩:=permB_iff.1 h8
 obtain ⟨a,ha⟩:∃ b,ps[lv]?=some b:=⟨_,List.getElem?_eq_getElem (by omega)⟩
 obtain ⟨b,hb⟩:∃ b,ps[lv + 1]?=some b:=⟨_,List.getElem?_eq_getElem hlv⟩
 have ra:=p2 a (List.mem_of_getElem? ha)
 have rb:=p2 b (List.mem_of_getElem? hb)
 have hne:a ≠ b:=fun e=>by subst e;have:=nodup_get p3 ha hb;omega
 have n1:=v1.ne h1
 have n2:=h4.ne h1
 have c0:w.cell? ⟨ob,0,none⟩=some (.slice (some ⟨vg,0,none⟩) ps.length vc):=by rw [cell_of_row w ob 0 _ _ _ h1];rfl
 have c1:w.cell? ⟨ob,1,none⟩=some (.slice (some ⟨lg,0,none⟩) ps.length lc):=by rw [cell_of_row w ob 1 _ _ _ h1];rfl
 have ca:=v1.cell ha
 have cb:=v1.cell hb
 have fa:=v1.frozen lv
 have fb:=v1.frozen (lv + 1)
 obtain ⟨A,rfl⟩:∃ A:Nat,a=(A:Int):=⟨a.toNat,by omega⟩
 obtain ⟨B,rfl⟩:∃ B:Nat,b=(B:Int):=⟨b.toNat,by omega⟩
 obtain ⟨qa,hqa⟩:∃ b,qs[A]?=some b:=⟨_,List.getElem?_eq_getElem (by rw [h2.1];omega)⟩
 obtain ⟨qb,hqb⟩:∃ b,qs[B]?=some b:=⟨_,List.getElem?_eq_getElem (by rw [h2.1];omega)⟩
 have da:=h4.cell hqa
 have db:=h4.cell hqb
 have ga:=h4.frozen A
 have gb:=h4.frozen B
 have hAB:A ≠ B:=by omega
 have hfin:∀ d W',W'=(((((w.drewN d).setCell ⟨vg,lv,none⟩ (.int .i64 (B:Int))).setCell ⟨vg,lv + 1,none⟩ (.int .i64 (A:Int))).setCell ⟨lg,A,none⟩ (.int .i64 ((lv:Int) + 1))).setCell ⟨lg,B,none⟩ (.int .i64 (lv:Int))).drew → Upd F w W' ∧ OrdRep F W' ob (stepL ps lv):=by
  rintro d W' rfl
  have kd:Keeps w (w.drewN d):=(Keeps.refl w).drewN d
  obtain ⟨w0,hw0⟩:∃ w0,w0=w.drewN d:=⟨_,rfl⟩
  rw [← hw0] at kd ⊢
  replace v1:=v1.keeps kd
  replace h4:=h4.keeps kd
  replace h1:=kd.heap h1
  have u1:Upd (fun k=>k=vg) w0 ((w0.setCell ⟨vg,lv,none⟩ (.int .i64 (B:Int))).setCell ⟨vg,lv + 1,none⟩ (.int .i64 (A:Int))):=Upd.setCell (F:=fun k=>k=vg) (p:=⟨vg,lv + 1,none⟩) (Upd.setCell (F:=fun k=>k=vg) (p:=⟨vg,lv,none⟩) (Upd.refl _ _) (.inl rfl) _) (.inl rfl) _
  obtain ⟨w2,hw2⟩:∃ w2,w2=(w0.setCell ⟨vg,lv,none⟩ (.int .i64 (B:Int))).setCell ⟨vg,lv + 1,none⟩ (.int .i64 (A:Int)):=⟨_,rfl⟩
  have r1:RowI w2 vg (stepL ps lv):=by
   rw [hw2]
   unfold stepL
   have e1:ps.getD (lv + 1) 0=(B:Int):=by simp [List.getD,hb]
   have e2:ps.getD lv 0=(A:Int):=by simp [List.getD,ha]
   rw [e1,e2]
   exact (v1.set lv (B:Int) (by omega)).set (lv + 1) (A:Int) (by simpa using hlv)
  rw [← hw2] at u1 ⊢
  have r2:RowI ((w2.setCell ⟨lg,A,none⟩ (.int .i64 ((lv:Int) + 1))).setCell ⟨lg,B,none⟩ (.int .i64 (lv:Int))) lg ((qs.set A ((lv:Int) + 1)).set B (lv:Int)):=
   ((h4.keep u1 (fun e=>v3 e.symm)).set A _ (by rw [h2.1];omega)).set B _ (by rw [List.length_set,h2.1];omega)
  have u2:Upd (fun k=>k=lg) w2 ((w2.setCell ⟨lg,A,none⟩ (.int .i64 ((lv:Int) + 1))).setCell ⟨lg,B,none⟩ (.int .i64 (lv:Int))):=Upd.setCell (F:=fun k=>k=lg) (p:=⟨lg,B,none⟩) (Upd.setCell (F:=fun k=>k=lg) (p:=⟨lg,A,none⟩) (Upd.refl _ _) (.inl rfl) _) (.inl rfl) _
  have u3:=(kd.upd F).trans' ((u1.mono (G:=F) (fun k _ e=>by subst e;exact v2)).trans' (u2.mono (G:=F) (fun k _ e=>by subst e;exact h5)))
  have hO:OrdRep F ((w2.setCell ⟨lg,A,none⟩ (.int .i64 ((lv:Int) + 1))).setCell ⟨lg,B,none⟩ (.int .i64 (lv:Int))) ob (stepL ps lv):=by
   refine ⟨⟨some ⟨vg,0,none⟩,vc,lg,lc,_,?_,stepL_inv hlv h8 h2 ha hb,fun _=>⟨vg,rfl,r1.keep u2 v3,v2,v3⟩,r2,h5⟩,h6,fun k hk=>by have:=h7 k hk;have:=u3.size;omega,stepL_perm hlv h8⟩
   rw [stepL_len]
   have q1:=u1.block ob (lt_of_heap h1) (fun e=>n1 e.symm)
   have q2:=u2.block ob (by have:=u1.size;have:=lt_of_heap h1;omega) (fun e=>n2 e.symm)
   rw [q2,q1]
   exact h1
  exact ⟨u3.drew,hO.keeps (Keeps.refl _).drew⟩
 have HFIN:=Lib.hid hfin
 obtain ⟨n,hn⟩:∃ n,n=ps.length:=⟨_,rfl⟩
 rw [← hn] at c0 c1 hle hlv ra rb
 have hA:A < n:=by omega
 have hB:B < n:=by omega
 have nvl:vg ≠ lg:=v3
 have nlv:lg ≠ vg:=fun e=>v3 e.symm
 have n1':ob ≠ vg:=fun e=>n1 e.symm
 have n2':ob ≠ lg:=fun e=>n2 e.symm
 clear H h1 h2 h3 h4 h5 h6 h7 h8 v1 v2 v3 p1 p2 p3 ha hb ra rb hne hqa hqb hfin hn
 go_enter Tryz.func216,Tryz.ntmps216
 go_wp2_with fail
 go_quiet (fail)
 go_wp2_with fail
 go_region
 go_wp2_with fail
 go_region
 go_wp2_with fail
 go_ret
 exact ⟨rfl,HFIN.out _ _ rfl⟩

theorem bdd_view {F:Nat → Prop} {w:World} {sb:Nat} {M:St} (h:StoreRep F w sb M) (e:Edge) (l:Int) (he:e.ok) :
  Calls Tryz.prog 293 #[.pointer (some ⟨sb,0,none⟩),.agg #[.int .u8 e.tag,.int .u32 e.to],.int .i64 l] w fun r w'=>
   r=.returned (.tuple #[.agg #[.int .u8 (vLo M (viewAct M 1 e l)).tag,.int .u32 (vLo M (viewAct M 1 e l)).to],.agg #[.int .u8 (vHi M 1 (viewAct M 1 e l)).tag,.int .u32 (vHi M 1 (viewAct M 1 e l)).to],.int .u8 (vErr M (viewAct M 1 e l))]) ∧ Upd F w w' ∧ StoreRep (Grow F w w') w' sb (vSt M (viewAct M 1 e l)):=by
 have hn:=h.wf.n16
 have hv:=fun (W:World) (hW:Keeps w W)=>store_vars (h.keeps hW)
 have hg:=fun (W:World) (hW:Keeps w W)=>store_get (h.keeps hW) e.to he.2.2
 have hl:=fun (W:World) (hW:Keeps w W)=>store_leads (h.keeps hW) 1 e l he
 by_cases c1:l < 0 ∨ M.n ≤ l
 ·have ev:viewAct M 1 e l=.inl (⟨0,0⟩,⟨0,0⟩,3):=if_pos c1
  rw [ev]
  by_cases c0:l < 0
  ·exact (bview_neg sb l M.n e w hn h.pos hv c0).mono fun r w' hr=>⟨hr.1,h.stay hr.2⟩
  ·exact (bview_big sb l M.n e w hn h.pos hv (by omega) (by omega)).mono fun r w' hr=>⟨hr.1,h.stay hr.2⟩
 ·have h0:0 ≤ l:=by omega
  have h1:l < M.n:=by omega
  rcases bool_cases (M.leads 1 e l) with b | b
  ·have ev:viewAct M 1 e l=.inl (⟨0,0⟩,⟨0,0⟩,1):=by unfold viewAct;rw [if_neg c1,if_pos b]
   rw [ev]
   rw [b] at hl
   exact (bview_no sb l M.n e w hn h.pos hv h0 h1 hl).mono fun r w' hr=>⟨hr.1,h.stay hr.2⟩
  ·have nb:¬ M.leads 1 e l=false:=by rw [b];simp
   rw [b] at hl
   have nt:¬ ((1:Int)=5 ∧ (e.to=0 ∨ l < e.tag)):=by omega
   have evo:vOut 1 l e=(e,e,0):=by simp [vOut]
   cases hk:look M.cs e.to with
   | none=>
    have ev:viewAct M 1 e l=.inl (e,e,0):=by unfold viewAct;rw [if_neg c1,if_neg nb,if_neg nt,hk];show Sum.inl (vOut 1 l e)=_;rw [evo]
    rw [ev]
    rw [hk] at hg
    exact (bview_none sb l M.n e Rec.zero w hn h.pos hv h0 h1 hl hg).mono fun r w' hr=>⟨hr.1,h.stay hr.2⟩
   | some r=>
    obtain ⟨k1,k2,k3⟩:=leads_some b hk
    have hok:=h.fit hk
    rw [hk] at hg
    by_cases c2:l < r.top
    ·have ev:viewAct M 1 e l=.inl (e,e,0):=by unfold viewAct;rw [if_neg c1,if_neg nb,if_neg nt,hk];show (if l < r.top then Sum.inl (vOut 1 l e) else _)=_;rw [if_pos c2,evo]
     rw [ev]
     exact (bview_up sb l M.n e r w hn h.pos hv h0 h1 hl c2 hok.top.1 hok.top.2 hok.bot.1 hok.bot.2 hg).mono fun r w' hr=>⟨hr.1,h.stay hr.2⟩
    ·have k4:r.top=l:=by omega
     have ev:viewAct M 1 e l=.inl (r.lo,r.hi,0):=by unfold viewAct;rw [if_neg c1,if_neg nb,if_neg nt,hk];show (if l < r.top then Sum.inl (vOut 1 l e) else _)=_;rw [if_neg c2,if_neg (by omega)]
     rw [ev]
     obtain ⟨rf,rt,rb,rlo,rhi⟩:=r
     dsimp only at k4
     subst k4
     exact (bview_at sb rt M.n e ⟨rf,rt,rb,rlo,rhi⟩ w hn h.pos hv h0 h1 hl hok.top.1 hok.top.2 hok.bot.1 hok.bot.2 hg).mono fun r w' hr=>⟨hr.1,h.stay hr.2⟩

theorem zdd_view {F:Nat → Prop} {w:World} {sb:Nat} {M:St} (h:StoreRep F w sb M) (e:Edge) (l:Int) (he:e.ok) :
  Calls Tryz.prog 294 #[.pointer (some ⟨sb,0,none⟩),.agg #[.int .u8 e.tag,.int .u32 e.to],.int .i64 l] w fun r w'=>
   r=.returned (.tuple #[.agg #[.int .u8 (vLo M (viewAct M 2 e l)).tag,.int .u32 (vLo M (viewAct M 2 e l)).to],.agg #[.int .u8 (vHi M 2 (viewAct M 2 e l)).tag,.int .u32 (vHi M 2 (viewAct M 2 e l)).to],.int .u8 (vErr M (viewAct M 2 e l))]) ∧ Upd F w w' ∧ StoreRep (Grow F w w') w' sb (vSt M (viewAct M 2 e l)):=by
 have hn:=h.wf.n16
 have hv:=fun (W:World) (hW:Keeps w W)=>store_vars (h.keeps hW)
 have hg:=fun (W:World) (hW:Keeps w W)=>store_get (h.keeps hW) e.to he.2.2
 have hl:=fun (W:World) (hW:Keeps w W)=>store_leads (h.keeps hW) 2 e l he
 by_cases c1:l < 0 ∨ M.n ≤ l
 ·have ev:viewAct M 2 e l=.inl (⟨0,0⟩,⟨0,0⟩,3):=if_pos c1
  rw [ev]
  by_cases c0:l < 0
  ·exact (zview_neg sb l M.n e w hn h.pos hv c0).mono fun r w' hr=>⟨hr.1,h.stay hr.2⟩
  ·exact (zview_big sb l M.n e w hn h.pos hv (by omega) (by omega)).mono fun r w' hr=>⟨hr.1,h.stay hr.2⟩
 ·have h0:0 ≤ l:=by omega
  have h1:l < M.n:=by omega
  rcases bool_cases (M.leads 2 e l) with b | b
  ·have ev:viewAct M 2 e l=.inl (⟨0,0⟩,⟨0,0⟩,1):=by unfold viewAct;rw [if_neg c1,if_pos b]
   rw [ev]
   rw [b] at hl
   exact (zview_no sb l M.n e w hn h.pos hv h0 h1 hl).mono fun r w' hr=>⟨hr.1,h.stay hr.2⟩
  ·have nb:¬ M.leads 2 e l=false:=by rw [b];simp
   rw [b] at hl
   have nt:¬ ((2:Int)=5 ∧ (e.to=0 ∨ l < e.tag)):=by omega
   have evo:vOut 2 l e=(e,⟨0,0⟩,0):=by simp [vOut]
   cases hk:look M.cs e.to with
   | none=>
    have ev:viewAct M 2 e l=.inl (e,⟨0,0⟩,0):=by unfold viewAct;rw [if_neg c1,if_neg nb,if_neg nt,hk];show Sum.inl (vOut 2 l e)=_;rw [evo]
    rw [ev]
    rw [hk] at hg
    exact (zview_none sb l M.n e Rec.zero w hn h.pos hv h0 h1 hl hg).mono fun r w' hr=>⟨hr.1,h.stay hr.2⟩
   | some r=>
    obtain ⟨k1,k2,k3⟩:=leads_some b hk
    have hok:=h.fit hk
    rw [hk] at hg
    by_cases c2:l < r.top
    ·have ev:viewAct M 2 e l=.inl (e,⟨0,0⟩,0):=by unfold viewAct;rw [if_neg c1,if_neg nb,if_neg nt,hk];show (if l < r.top then Sum.inl (vOut 2 l e) else _)=_;rw [if_pos c2,evo]
     rw [ev]
     exact (zview_up sb l M.n e r w hn h.pos hv h0 h1 hl c2 hok.top.1 hok.top.2 hok.bot.1 hok.bot.2 hg).mono fun r w' hr=>⟨hr.1,h.stay hr.2⟩
    ·have k4:r.top=l:=by omega
     have ev:viewAct M 2 e l=.inl (r.lo,r.hi,0):=by unfold viewAct;rw [if_neg c1,if_neg nb,if_neg nt,hk];show (if l < r.top then Sum.inl (vOut 2 l e) else _)=_;rw [if_neg c2,if_neg (by omega)]
     rw [ev]
     obtain ⟨rf,rt,rb,rlo,rhi⟩:=r
     dsimp only at k4
     subst k4
     exact (zview_at sb rt M.n e ⟨rf,rt,rb,rlo,rhi⟩ w hn h.pos hv h0 h1 hl hok.top.1 hok.top.2 hok.bot.1 hok.bot.2 hg).mono fun r w' hr=>⟨hr.1,h.stay hr.2⟩

theorem cbdd_view {F:Nat → Prop} {w:World} {sb:Nat} {M:St} (h:StoreRep F w sb M) (e:Edge) (l:Int) (he:e.ok) :
  Calls Tryz.prog 295 #[.pointer (some ⟨sb,0,none⟩),.agg #[.int .u8 e.tag,.int .u32 e.to],.int .i64 l] w fun r w'=>
   r=.returned (.tuple #[.agg #[.int .u8 (vLo M (viewAct M 3 e l)).tag,.int .u32 (vLo M (viewAct M 3 e l)).to],.agg #[.int .u8 (vHi M 3 (viewAct M 3 e l)).tag,.int .u32 (vHi M 3 (viewAct M 3 e l)).to],.int .u8 (vErr M (viewAct M 3 e l))]) ∧ Upd F w w' ∧ StoreRep (Grow F w w') w' sb (vSt M (viewAct M 3 e l)):=by
 have hn:=h.wf.n16
 have hv:=fun (W:World) (hW:Keeps w W)=>store_vars (h.keeps hW)
 have hg:=fun (W:World) (hW:Keeps w W)=>store_get (h.keeps hW) e.to he.2.2
 have hl:=fun (W:World) (hW:Keeps w W)=>store_leads (h.keeps hW) 3 e l he
 by_cases c1:l < 0 ∨ M.n ≤ l
 ·have ev:viewAct M 3 e l=.inl (⟨0,0⟩,⟨0,0⟩,3):=if_pos c1
  rw [ev]
  by_cases c0:l < 0
  ·exact (cview_neg sb l M.n e w hn h.pos hv c0).mono fun r w' hr=>⟨hr.1,h.stay hr.2⟩
  ·exact (cview_big sb l M.n e w hn h.pos hv (by omega) (by omega)).mono fun r w' hr=>⟨hr.1,h.stay hr.2⟩
 ·have h0:0 ≤ l:=by omega
  have h1:l < M.n:=by omega
  rcases bool_cases (M.leads 3 e l) with b | b
  ·have ev:viewAct M 3 e l=.inl (⟨0,0⟩,⟨0,0⟩,1):=by unfold viewAct;rw [if_neg c1,if_pos b]
   rw [ev]
   rw [b] at hl
   exact (cview_no sb l M.n e w hn h.pos hv h0 h1 hl).mono fun r w' hr=>⟨hr.1,h.stay hr.2⟩
  ·have nb:¬ M.leads 3 e l=false:=by rw [b];simp
   rw [b] at hl
   have nt:¬ ((3:Int)=5 ∧ (e.to=0 ∨ l < e.tag)):=by omega
   have evo:vOut 3 l e=(e,e,0):=by simp [vOut]
   cases hk:look M.cs e.to with
   | none=>
    have ev:viewAct M 3 e l=.inl (e,e,0):=by unfold viewAct;rw [if_neg c1,if_neg nb,if_neg nt,hk];show Sum.inl (vOut 3 l e)=_;rw [evo]
    rw [ev]
    rw [hk] at hg
    exact (cview_none sb l M.n e Rec.zero w hn h.pos hv h0 h1 hl hg).mono fun r w' hr=>⟨hr.1,h.stay hr.2⟩
   | some r=>
    obtain ⟨k1,k2,k3⟩:=leads_some b hk
    have hok:=h.fit hk
    rw [hk] at hg
    by_cases c2:l < r.top
    ·have ev:viewAct M 3 e l=.inl (e,e,0):=by unfold viewAct;rw [if_neg c1,if_neg nb,if_neg nt,hk];show (if l < r.top then Sum.inl (vOut 3 l e) else _)=_;rw [if_pos c2,evo]
     rw [ev]
     exact (cview_up sb l M.n e r w hn h.pos hv h0 h1 hl c2 hok.top.1 hok.top.2 hok.bot.1 hok.bot.2 hg).mono fun r w' hr=>⟨hr.1,h.stay hr.2⟩
    ·have k4:r.top=l:=by omega
     by_cases c4:r.bot=r.top
     ·have ev:viewAct M 3 e l=.inl (r.lo,r.hi,0):=by unfold viewAct;rw [if_neg c1,if_neg nb,if_neg nt,hk];show (if l < r.top then Sum.inl (vOut 3 l e) else _)=_;rw [if_neg c2,if_neg (fun hh=>hh.2 c4)]
      rw [ev]
      obtain ⟨rf,rt,rb,rlo,rhi⟩:=r
      dsimp only at k4 c4
      subst c4
      subst k4
      exact (cview_at sb rb M.n e ⟨rf,rb,rb,rlo,rhi⟩ w hn h.pos hv h0 h1 hl hok.top.1 hok.top.2 hok.bot.1 hok.bot.2 hg).mono fun r w' hr=>⟨hr.1,h.stay hr.2⟩
     ·have ev:viewAct M 3 e l=.inr ⟨r.form,r.top + 1,r.bot,r.lo,r.hi⟩:=by unfold viewAct;rw [if_neg c1,if_neg nb,if_neg nt,hk];show (if l < r.top then Sum.inl (vOut 3 l e) else _)=_;rw [if_neg c2,if_pos ⟨.inl rfl,c4⟩]
      rw [ev]
      have hr:=chain_ok (M:=M) (f:=3) hok h0 (by omega) (by decide)
      obtain ⟨rf,rt,rb,rlo,rhi⟩:=r
      dsimp only at k1 k4 c4 hr ⊢
      subst k1
      subst k4
      have hf:=fun (W:World) (hW:Keeps w W)=>cbdd_found0 (h.keeps hW) ⟨3,rt + 1,rb,rlo,rhi⟩ hr
      by_cases he0:M.findErr ⟨3,rt + 1,rb,rlo,rhi⟩=0
      ·have e2:vHi M 3 (.inr ⟨3,rt + 1,rb,rlo,rhi⟩)=rhi:=by simp [vHi,he0]
       have e3:vErr M (.inr ⟨3,rt + 1,rb,rlo,rhi⟩)=0:=he0
       rw [e2,e3]
       rw [he0] at hf
       refine (cview_chain (fun W W1=>StoreRep (Grow F W W1) W1 sb (M.findSt ⟨3,rt + 1,rb,rlo,rhi⟩)) sb rt M.n e ⟨3,rt,rb,rlo,rhi⟩ _ _ w hn h.pos hv h0 h1 hl c4 hok.top.1 hok.top.2 hok.bot.1 hok.bot.2 hg h.lt hf).mono ?_
       rintro r w' ⟨rfl,W,W1,q1,q2,q3,q4⟩
       exact ⟨rfl,q3.after h.lt q1 q2 q4⟩
      ·have e1:vLo M (.inr ⟨3,rt + 1,rb,rlo,rhi⟩)=⟨0,0⟩:=foundE_bad he0
       have e2:vHi M 3 (.inr ⟨3,rt + 1,rb,rlo,rhi⟩)=⟨0,0⟩:=by simp [vHi,he0]
       rw [e1,e2]
       refine (cview_full (fun W W1=>StoreRep (Grow F W W1) W1 sb (M.findSt ⟨3,rt + 1,rb,rlo,rhi⟩)) sb rt M.n e ⟨3,rt,rb,rlo,rhi⟩ _ _ (M.findErr ⟨3,rt + 1,rb,rlo,rhi⟩) he0 w hn h.pos hv h0 h1 hl c4 hok.top.1 hok.top.2 hok.bot.1 hok.bot.2 hg h.lt hf).mono ?_
       rintro r w' ⟨rfl,W,W1,q1,q2,q3,q4⟩
       exact ⟨rfl,q3.after h.lt q1 q2 q4⟩

theorem czdd_view {F:Nat → Prop} {w:World} {sb:Nat} {M:St} (h:StoreRep F w sb M) (e:Edge) (l:Int) (he:e.ok) :
  Calls Tryz.prog 296 #[.pointer (some ⟨sb,0,none⟩),.agg #[.int .u8 e.tag,.int .u32 e.to],.int .i64 l] w fun r w'=>
   r=.returned (.tuple #[.agg #[.int .u8 (vLo M (viewAct M 4 e l)).tag,.int .u32 (vLo M (viewAct M 4 e l)).to],.agg #[.int .u8 (vHi M 4 (viewAct M 4 e l)).tag,.int .u32 (vHi M 4 (viewAct M 4 e l)).to],.int .u8 (vErr M (viewAct M 4 e l))]) ∧ Upd F w w' ∧ StoreRep (Grow F w w') w' sb (vSt M (viewAct M 4 e l)):=by
 have hn:=h.wf.n16
 have hv:=fun (W:World) (hW:Keeps w W)=>store_vars (h.keeps hW)
 have hg:=fun (W:World) (hW:Keeps w W)=>store_get (h.keeps hW) e.to he.2.2
 have hl:=fun (W:World) (hW:Keeps w W)=>store_leads (h.keeps hW) 4 e l he
 by_cases c1:l < 0 ∨ M.n ≤ l
 ·have ev:viewAct M 4 e l=.inl (⟨0,0⟩,⟨0,0⟩,3):=if_pos c1
  rw [ev]
  by_cases c0:l < 0
  ·exact (qview_neg sb l M.n e w hn h.pos hv c0).mono fun r w' hr=>⟨hr.1,h.stay hr.2⟩
  ·exact (qview_big sb l M.n e w hn h.pos hv (by omega) (by omega)).mono fun r w' hr=>⟨hr.1,h.stay hr.2⟩
 ·have h0:0 ≤ l:=by omega
  have h1:l < M.n:=by omega
  rcases bool_cases (M.leads 4 e l) with b | b
  ·have ev:viewAct M 4 e l=.inl (⟨0,0⟩,⟨0,0⟩,1):=by unfold viewAct;rw [if_neg c1,if_pos b]
   rw [ev]
   rw [b] at hl
   exact (qview_no sb l M.n e w hn h.pos hv h0 h1 hl).mono fun r w' hr=>⟨hr.1,h.stay hr.2⟩
  ·have nb:¬ M.leads 4 e l=false:=by rw [b];simp
   rw [b] at hl
   have nt:¬ ((4:Int)=5 ∧ (e.to=0 ∨ l < e.tag)):=by omega
   have evo:vOut 4 l e=(e,⟨0,0⟩,0):=by simp [vOut]
   cases hk:look M.cs e.to with
   | none=>
    have ev:viewAct M 4 e l=.inl (e,⟨0,0⟩,0):=by unfold viewAct;rw [if_neg c1,if_neg nb,if_neg nt,hk];show Sum.inl (vOut 4 l e)=_;rw [evo]
    rw [ev]
    rw [hk] at hg
    exact (qview_none sb l M.n e Rec.zero w hn h.pos hv h0 h1 hl hg).mono fun r w' hr=>⟨hr.1,h.stay hr.2⟩
   | some r=>
    obtain ⟨k1,k2,k3⟩:=leads_some b hk
    have hok:=h.fit hk
    rw [hk] at hg
    by_cases c2:l < r.top
    ·have ev:viewAct M 4 e l=.inl (e,⟨0,0⟩,0):=by unfold viewAct;rw [if_neg c1,if_neg nb,if_neg nt,hk];show (if l < r.top then Sum.inl (vOut 4 l e) else _)=_;rw [if_pos c2,evo]
     rw [ev]
     exact (qview_up sb l M.n e r w hn h.pos hv h0 h1 hl c2 hok.top.1 hok.top.2 hok.bot.1 hok.bot.2 hg).mono fun r w' hr=>⟨hr.1,h.stay hr.2⟩
    ·have k4:r.top=l:=by omega
     by_cases c4:r.bot=r.top
     ·have ev:viewAct M 4 e l=.inl (r.lo,r.hi,0):=by unfold viewAct;rw [if_neg c1,if_neg nb,if_neg nt,hk];show (if l < r.top then Sum.inl (vOut 4 l e) else _)=_;rw [if_neg c2,if_neg (fun hh=>hh.2 c4)]
      rw [ev]
      obtain ⟨rf,rt,rb,rlo,rhi⟩:=r
      dsimp only at k4 c4
      subst c4
      subst k4
      exact (qview_at sb rb M.n e ⟨rf,rb,rb,rlo,rhi⟩ w hn h.pos hv h0 h1 hl hok.top.1 hok.top.2 hok.bot.1 hok.bot.2 hg).mono fun r w' hr=>⟨hr.1,h.stay hr.2⟩
     ·have ev:viewAct M 4 e l=.inr ⟨r.form,r.top + 1,r.bot,r.lo,r.hi⟩:=by unfold viewAct;rw [if_neg c1,if_neg nb,if_neg nt,hk];show (if l < r.top then Sum.inl (vOut 4 l e) else _)=_;rw [if_neg c2,if_pos ⟨.inr rfl,c4⟩]
      rw [ev]
      have hr:=chain_ok (M:=M) (f:=4) hok h0 (by omega) (by decide)
      obtain ⟨rf,rt,rb,rlo,rhi⟩:=r
      dsimp only at k1 k4 c4 hr ⊢
      subst k1
      subst k4
      have hf:=fun (W:World) (hW:Keeps w W)=>czdd_found0 (h.keeps hW) ⟨4,rt + 1,rb,rlo,rhi⟩ hr
      by_cases he0:M.findErr ⟨4,rt + 1,rb,rlo,rhi⟩=0
      ·have e2:vHi M 4 (.inr ⟨4,rt + 1,rb,rlo,rhi⟩)=foundE M 0 ⟨4,rt + 1,rb,rlo,rhi⟩:=by simp [vHi,he0]
       have e3:vErr M (.inr ⟨4,rt + 1,rb,rlo,rhi⟩)=0:=he0
       rw [e2,e3]
       rw [he0] at hf
       refine (qview_chain (fun W W1=>StoreRep (Grow F W W1) W1 sb (M.findSt ⟨4,rt + 1,rb,rlo,rhi⟩)) sb rt M.n e ⟨4,rt,rb,rlo,rhi⟩ _ _ w hn h.pos hv h0 h1 hl c4 hok.top.1 hok.top.2 hok.bot.1 hok.bot.2 hg h.lt hf).mono ?_
       rintro r w' ⟨rfl,W,W1,q1,q2,q3,q4⟩
       exact ⟨rfl,q3.after h.lt q1 q2 q4⟩
      ·have e1:vLo M (.inr ⟨4,rt + 1,rb,rlo,rhi⟩)=⟨0,0⟩:=foundE_bad he0
       have e2:vHi M 4 (.inr ⟨4,rt + 1,rb,rlo,rhi⟩)=⟨0,0⟩:=by simp [vHi,he0]
       rw [e1,e2]
       refine (qview_full (fun W W1=>StoreRep (Grow F W W1) W1 sb (M.findSt ⟨4,rt + 1,rb,rlo,rhi⟩)) sb rt M.n e ⟨4,rt,rb,rlo,rhi⟩ _ _ (M.findErr ⟨4,rt + 1,rb,rlo,rhi⟩) he0 w hn h.pos hv h0 h1 hl c4 hok.top.1 hok.top.2 hok.bot.1 hok.bot.2 hg h.lt hf).mono ?_
       rintro r w' ⟨rfl,W,W1,q1,q2,q3,q4⟩
       exact ⟨rfl,q3.after h.lt q1 q2 q4⟩

theorem tbdd_view {F:Nat → Prop} {w:World} {sb:Nat} {M:St} (h:StoreRep F w sb M) (e:Edge) (l:Int) (he:e.ok) :
  Calls Tryz.prog 297 #[.pointer (some ⟨sb,0,none⟩),.agg #[.int .u8 e.tag,.int .u32 e.to],.int .i64 l] w fun r w'=>
   r=.returned (.tuple #[.agg #[.int .u8 (vLo M (viewAct M 5 e l)).tag,.int .u32 (vLo M (viewAct M 5 e l)).to],.agg #[.int .u8 (vHi M 5 (viewAct M 5 e l)).tag,.int .u32 (vHi M 5 (viewAct M 5 e l)).to],.int .u8 (vErr M (viewAct M 5 e l))]) ∧ Upd F w w' ∧ StoreRep (Grow F w w') w' sb (vSt M (viewAct M 5 e l)):=by
 have hn:=h.wf.n16
 have hv:=fun (W:World) (hW:Keeps w W)=>store_vars (h.keeps hW)
 have hg:=fun (W:World) (hW:Keeps w W)=>store_get (h.keeps hW) e.to he.2.2
 have hl:=fun (W:World) (hW:Keeps w W)=>store_leads (h.keeps hW) 5 e l he
 by_cases c1:l < 0 ∨ M.n ≤ l
 ·have ev:viewAct M 5 e l=.inl (⟨0,0⟩,⟨0,0⟩,3):=if_pos c1
  rw [ev]
  by_cases c0:l < 0
  ·exact (tview_neg sb l M.n e w hn h.pos hv c0).mono fun r w' hr=>⟨hr.1,h.stay hr.2⟩
  ·exact (tview_big sb l M.n e w hn h.pos hv (by omega) (by omega)).mono fun r w' hr=>⟨hr.1,h.stay hr.2⟩
 ·have h0:0 ≤ l:=by omega
  have h1:l < M.n:=by omega
  rcases bool_cases (M.leads 5 e l) with b | b
  ·have ev:viewAct M 5 e l=.inl (⟨0,0⟩,⟨0,0⟩,1):=by unfold viewAct;rw [if_neg c1,if_pos b]
   rw [ev]
   rw [b] at hl
   exact (tview_no sb l M.n e w hn h.pos hv h0 h1 hl).mono fun r w' hr=>⟨hr.1,h.stay hr.2⟩
  ·have nb:¬ M.leads 5 e l=false:=by rw [b];simp
   rw [b] at hl
   by_cases z0:e.to=0
   ·have ev:viewAct M 5 e l=.inl (e,e,0):=by unfold viewAct;rw [if_neg c1,if_neg nb,if_pos ⟨rfl,.inl z0⟩]
    rw [ev]
    obtain ⟨et,ea⟩:=e
    dsimp only at z0
    subst z0
    exact (tview_zero sb l M.n et w hn h.pos hv h0 h1 hl).mono fun r w' hr=>⟨hr.1,h.stay hr.2⟩
   by_cases z1:l < e.tag
   ·have ev:viewAct M 5 e l=.inl (e,e,0):=by unfold viewAct;rw [if_neg c1,if_neg nb,if_pos ⟨rfl,.inr z1⟩]
    rw [ev]
    exact (tview_tag sb l M.n e w hn h.pos hv h0 h1 hl he.1.1 he.1.2 z0 z1).mono fun r w' hr=>⟨hr.1,h.stay hr.2⟩
   have nt:¬ ((5:Int)=5 ∧ (e.to=0 ∨ l < e.tag)):=by omega
   have z2:e.tag ≤ l:=by omega
   have evo:vOut 5 l e=(⟨l + 1,e.to⟩,⟨0,0⟩,0):=by simp [vOut]
   cases hk:look M.cs e.to with
   | none=>
    have ev:viewAct M 5 e l=.inl (⟨l + 1,e.to⟩,⟨0,0⟩,0):=by unfold viewAct;rw [if_neg c1,if_neg nb,if_neg nt,hk];show Sum.inl (vOut 5 l e)=_;rw [evo]
    rw [ev]
    rw [hk] at hg
    exact (tview_none sb l M.n e Rec.zero w hn h.pos hv h0 h1 hl he.1.1 he.1.2 z0 z2 hg).mono fun r w' hr=>⟨hr.1,h.stay hr.2⟩
   | some r=>
    obtain ⟨k1,k2,k3⟩:=leads_some b hk
    have hok:=h.fit hk
    rw [hk] at hg
    by_cases c2:l < r.top
    ·have ev:viewAct M 5 e l=.inl (⟨l + 1,e.to⟩,⟨0,0⟩,0):=by unfold viewAct;rw [if_neg c1,if_neg nb,if_neg nt,hk];show (if l < r.top then Sum.inl (vOut 5 l e) else _)=_;rw [if_pos c2,evo]
     rw [ev]
     exact (tview_up sb l M.n e r w hn h.pos hv h0 h1 hl he.1.1 he.1.2 z0 z2 c2 hok.top.1 hok.top.2 hok.bot.1 hok.bot.2 hg).mono fun r w' hr=>⟨hr.1,h.stay hr.2⟩
    ·have k4:r.top=l:=by omega
     have ev:viewAct M 5 e l=.inl (r.lo,r.hi,0):=by unfold viewAct;rw [if_neg c1,if_neg nb,if_neg nt,hk];show (if l < r.top then Sum.inl (vOut 5 l e) else _)=_;rw [if_neg c2,if_neg (by omega)]
     rw [ev]
     obtain ⟨rf,rt,rb,rlo,rhi⟩:=r
     dsimp only at k4
     subst k4
     exact (tview_at sb rt M.n e ⟨rf,rt,rb,rlo,rhi⟩ w hn h.pos hv h0 h1 hl he.1.1 he.1.2 z0 z2 hok.top.1 hok.top.2 hok.bot.1 hok.bot.2 hg).mono fun r w' hr=>⟨hr.1,h.stay hr.2⟩

end Go.Proofs.YtiifimnpmbfihaaGreat
