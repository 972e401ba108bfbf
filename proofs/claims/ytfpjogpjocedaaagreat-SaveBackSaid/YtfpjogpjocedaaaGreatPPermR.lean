/-
  A row of bools of the call's own; which ids of the document's list are marked.
-/
import Derived.Test.YtfpjogpjocedaaaGreatPPermX
import Derived.Laws.OwnMore
import Derived.BigRegion
namespace Go.Proofs.YtfpjogpjocedaaaGreat
set_option linter.unusedSimpArgs false
set_option linter.unusedVariables false
set_option maxHeartbeats 600000
open Go.RowKit

def BoolsAt (w:World) (blk:Nat) (bs:List Bool):Prop:=w.heap[blk]?=some (.cells (bs.map Value.bool).toArray 4 (0,0))

theorem BoolsAt.cell {w:World} {blk:Nat} {bs:List Bool} (h:BoolsAt w blk bs) {i:Nat} {b:Bool} (hb:bs[i]?=some b):w.cell? ⟨blk,i,none⟩=some (.bool b):=by
 rw [cell_of_row w blk i _ _ _ h]
 simp [hb]

theorem BoolsAt.frozen {w:World} {blk:Nat} {bs:List Bool} (h:BoolsAt w blk bs) (i:Nat):w.frozen? ⟨blk,i,none⟩=false:=frozen_of_row w blk i _ _ h

theorem BoolsAt.lt {w:World} {blk:Nat} {bs:List Bool} (h:BoolsAt w blk bs):blk < w.heap.size:=lt_of_heap h

theorem BoolsAt.keep {G:Nat → Prop} {w w':World} {blk:Nat} {bs:List Bool} (h:BoolsAt w blk bs) (hu:Upd G w w') (hg:¬ G blk):BoolsAt w' blk bs:=(hu.block blk h.lt hg).trans h

theorem BoolsAt.set {w:World} {blk:Nat} {bs:List Bool} (h:BoolsAt w blk bs) (i:Nat) (b:Bool):BoolsAt (w.setCell ⟨blk,i,none⟩ (.bool b)) blk (bs.set i b):=by
 have e:=Go.heap_setCell_same w blk i _ _ (.bool b) h
 unfold BoolsAt
 rw [e]
 simp [List.map_set]

theorem bools_made {w:World} {blk n:Nat} (h:w.ownsRow blk 4 1 (.slice (some ⟨blk,0,none⟩) n n) n (madeCells (Value.bool false).cells (n * 1)).toList):BoolsAt w blk (List.replicate n false):=by
 obtain ⟨cur,hcur⟩:=owns_type h (k:=blk) rfl
 rcases h.2 with ⟨h0,_⟩ | ⟨g,cap,cur',hv,_,hg,_,_,hs,ht⟩
 ·cases h0
 ·cases hv
  unfold BoolsAt
  rw [hg]
  have e1:(madeCells (Value.bool false).cells (n * 1)).toList=List.replicate n (Value.bool false):=by
   show (madeCells #[Value.bool false] (n * 1)).toList=_
   rw [toList_madeCells_one,Nat.mul_one]
  rw [e1] at ht
  have e2:cur'.toList=List.replicate n (Value.bool false):=by
   rw [← ht,List.take_of_length_le (by simp;omega)]
  congr 2
  rw [List.map_replicate,← e2]

def InvOf (ps qs:List Int):Prop:=qs.length=ps.length ∧ ∀ (i:Nat) (x:Int),ps[i]?=some x → qs[x.toNat]?=some (i:Int)

theorem rowI_made {w:World} {blk n:Nat} (h:w.ownsRow blk 3 1 (.slice (some ⟨blk,0,none⟩) n n) n (madeCells (Value.int .i64 0).cells (n * 1)).toList):RowI w blk (List.replicate n 0):=by
 have e:(madeCells (Value.int .i64 0).cells (n * 1)).toList=(List.replicate n (0:Int)).map (Value.int .i64):=by
  rw [List.map_replicate,Nat.mul_one]
  simp [madeCells,Value.cells,Nat.mod_one]
  rw [List.map_const',List.length_range]
 rw [e] at h
 exact (rowI_owns h).1

set_option maxRecDepth 100000 in
set_option maxHeartbeats 1000000 in
theorem inverse_calls (a:Option Addr) (cap:Nat) (ps:List Int) (w:World) (h:IntsAt w a ps) (hl:ps.length ≤ 1048576) :
  Calls Tryz.prog 34 #[.slice a ps.length cap] w fun e w'=>Keeps w w' ∧
   if permB ps=true then ∃ qs,e=.returned (.tuple #[.slice (some ⟨w.heap.size,0,none⟩) ps.length ps.length,.bool true]) ∧ RowI w' w.heap.size qs ∧ InvOf ps qs
   else e=.returned (.tuple #[.slice none 0 0,.bool false]):=by
 have hR:=fun W (hW:Keeps w W)=>permRight_calls a cap ps W (h.keeps hW) hl
 obtain ⟨N,hN⟩:∃ N,N=ps.length:=⟨_,rfl⟩
 cases hb:permB ps with
 | false=>
  simp only [Bool.false_eq_true,if_false]
  rw [hb,← hN] at hR
  rw [← hN]
  have HR:=Lib.hid hR
  clear hR h hl hb hN
  go_enter Tryz.func34,Tryz.ntmps34
  go_wp2_with (first | (go_at_call 81;refine (HR.out _ (by (exact kp))).mono ?_;rintro e w1 ⟨rfl,rfl⟩) | fail)
  go_ret2
  exact ⟨Keeps.refl _,rfl⟩
 | true=>
  simp only [if_true]
  obtain ⟨h16,hrng,hnd⟩:=permB_iff.1 hb
  rw [hb,← hN] at hR
  rw [← hN] at hl h16 hrng ⊢
  have HR:=Lib.hid hR
  have HN:=Lib.hid hN
  have H:=Lib.hid h
  have HRNG:=Lib.hid hrng
  have HND:=Lib.hid hnd
  obtain ⟨j0,hj,jz0,jz1,jz2⟩:=info_parts info_int
  clear hR h hb hN hrng hnd
  go_enter Tryz.func34,Tryz.ntmps34
  go_wp2_with (first
   | (go_at_call 81;refine (HR.out _ (by (exact kp))).mono ?_;rintro e w1 ⟨rfl,rfl⟩)
   | (at_make;refine wpList_make_full _ rfl _ _ 23 rfl w.heap.size 3 j0 (.int .i64 0) 1 Tryz.underlying23 hj jz0 jz1 .i64 .i64 (N:Int) (N:Int) N rfl rfl rfl rfl (by rw [jz2];omega) (by unfold maxLen;omega) (by simp) ?_;intro w1 hown1 hg1)
   | fail)
  have HB1:=Lib.hid (rowI_made hown1)
  have hkk:Keeps w w1:=⟨hg1.os,hg1.tape,hg1.output,hg1.size,fun i hi=>hg1.block i hi (by simp)⟩
  have HKK:=Lib.hid hkk
  have l1:=HB1.out.lt
  clear hown1 hg1 hkk
  go_loopg [5,6,15] N (fun gk s5 s6 s15 wr=>∃ (d:Nat) (qs:List Int),d + gk=N ∧ s15=.int .i64 (d:Int) ∧ qs.length=N ∧ RowI wr w.heap.size qs ∧ (∀ i x,i < d → ps[i]?=some x → qs[x.toNat]?=some (i:Int)) ∧ Upd (fun j=>j=w.heap.size) w1 wr)
  case atStart=>exact ⟨0,_,by omega,rfl,by simp,HB1.out,fun i x hi=>by omega,Upd.refl _ _⟩
  case round=>
   obtain ⟨d,qs,hd,rfl,hql,hB,hag,hk0⟩:=hrel
   have HB:=Lib.hid hB
   have HQL:=Lib.hid hql
   have HAG:=Lib.hid hag
   have HK0:=Lib.hid hk0
   have hw:Keeps w wr:=HKK.out.new hk0 (fun k hk=>by omega)
   clear hB hql hag hk0
   by_cases hlt:d < N
   ·obtain ⟨x,hx⟩:∃ b,ps[d]?=some b:=⟨_,List.getElem?_eq_getElem (by rw [← HN.out];exact hlt)⟩
    obtain ⟨b,off,rfl,hc0⟩:=H.out d x hx
    have hc:=hw.cell hc0
    obtain ⟨hx0,hx1⟩:=HRNG.out x (List.mem_of_getElem? hx)
    have HX:=Lib.hid hx
    obtain ⟨X,rfl⟩:∃ X:Nat,x=(X:Int):=⟨x.toNat,by omega⟩
    obtain ⟨y,hy⟩:∃ b,qs[X]?=some b:=⟨_,List.getElem?_eq_getElem (by rw [HQL.out];omega)⟩
    have hcy:=HB.out.cell hy
    have hfy:=HB.out.frozen X
    clear hc0 hx hy
    go_wp2_with fail
    go_roundg (gk - 1)
    case rel=>
     refine ⟨d + 1,qs.set X (d:Int),by omega,by simp,by rw [List.length_set,HQL.out],?_,fun i z hi hz=>?_,?_⟩
     ·exact HB.out.set X (d:Int) (by rw [HQL.out];omega)
     ·by_cases hid:i=d
      ·subst hid
       rw [HX.out] at hz
       cases hz
       rw [Int.toNat_natCast,List.getElem?_set_self (by rw [HQL.out];omega)]
      ·have hne:z.toNat ≠ X:=fun e=>by
        have hz0:=(HRNG.out z (List.mem_of_getElem? hz)).1
        have hzX:z=(X:Int):=by omega
        rw [hzX] at hz
        obtain ⟨l1,e1⟩:=List.getElem?_eq_some_iff.1 hz
        obtain ⟨l2,e2⟩:=List.getElem?_eq_some_iff.1 HX.out
        exact hid (List.getElem_inj HND.out |>.1 (e1.trans e2.symm))
       rw [List.getElem?_set_ne (fun e=>hne e.symm)]
       exact HAG.out i z (by omega) hz
     ·exact HK0.out.setCell (.inl rfl) _
    case measure=>omega
   ·have hd2:d=N:=by omega
    have hq:InvOf ps qs:=⟨by rw [HQL.out,HN.out],fun i x hx=>HAG.out i x (by have:=(List.getElem?_eq_some_iff.1 hx).1;have:=HN.out;omega) hx⟩
    have HQ:=Lib.hid hq
    clear hd2 hq
    go_wp2_with fail
    go_ret2
    exact ⟨hw,qs,rfl,HB.out,HQ.out⟩

structure OrdRep (F:Nat → Prop) (w:World) (ob:Nat) (ps:List Int):Prop where
 lies:∃ va vc lg lc qs,w.heap[ob]?=some (.cells #[.slice va ps.length vc,.slice (some ⟨lg,0,none⟩) ps.length lc] 94 (0,0)) ∧ InvOf ps qs ∧
  (ps ≠ [] → ∃ vg,va=some ⟨vg,0,none⟩ ∧ RowI w vg ps ∧ F vg ∧ vg ≠ lg) ∧ RowI w lg qs ∧ F lg
 own:F ob
 lt:∀ k,F k → k < w.heap.size
 perm:permB ps=true

theorem OrdRep.keep {F G:Nat → Prop} {w W:World} {ob:Nat} {ps:List Int} (h:OrdRep F w ob ps) (hu:Upd G w W) (hd:∀ k,F k → ¬ G k):OrdRep F W ob ps:=by
 obtain ⟨⟨va,vc,lg,lc,qs,h1,h2,h3,h4,h5⟩,a1,a2,a3⟩:=h
 refine ⟨⟨va,vc,lg,lc,qs,(hu.block ob (lt_of_heap h1) (hd _ a1)).trans h1,h2,fun hn=>?_,h4.keep hu (hd _ h5),h5⟩,a1,fun k hk=>Nat.lt_of_lt_of_le (a2 k hk) hu.size,a3⟩
 obtain ⟨vg,q1,q2,q3,q4⟩:=h3 hn
 exact ⟨vg,q1,q2.keep hu (hd _ q3),q3,q4⟩

theorem OrdRep.keeps {F:Nat → Prop} {w W:World} {ob:Nat} {ps:List Int} (h:OrdRep F w ob ps) (hu:Keeps w W):OrdRep F W ob ps:=h.keep (hu.upd (fun _=>False)) (fun _ _ h=>h)

set_option maxRecDepth 100000 in
theorem orderOf_calls (a:Option Addr) (cap:Nat) (ps:List Int) (w:World) (h:IntsAt w a ps) (hl:ps.length ≤ 1048576) :
  Calls Tryz.prog 9 #[.slice a ps.length cap] w fun e w'=>Keeps w w' ∧
   if permB ps=true then ∃ ob F,e=.returned (.tuple #[.pointer (some ⟨ob,0,none⟩),.int .u8 0]) ∧ OrdRep F w' ob ps ∧ (∀ k,F k → w.heap.size ≤ k)
   else e=.returned (.tuple #[.pointer none,.int .u8 1]):=by
 have hI:=fun W (hW:Keeps w W)=>inverse_calls a cap ps W (h.keeps hW) hl
 have hC:=fun W (hW:Keeps w W)=>clone_calls a cap ps W (h.keeps hW) hl
 obtain ⟨N,hN⟩:∃ N,N=ps.length:=⟨_,rfl⟩
 cases hb:permB ps with
 | false=>
  simp only [Bool.false_eq_true,if_false]
  simp only [hb,Bool.false_eq_true,if_false,← hN] at hI
  rw [← hN]
  have HI:=Lib.hid hI
  clear hI h hl hb hN hC
  go_enter Tryz.func9,Tryz.ntmps9
  go_wp2_with (first | (go_at_call 34;refine (HI.out _ (by (exact kp))).mono ?_;rintro e w1 ⟨hk,rfl⟩) | fail)
  go_ret2
  exact ⟨hk,rfl⟩
 | true=>
  simp only [if_true]
  simp only [hb,if_true,← hN] at hI
  rw [← hN] at hC ⊢
  have HI:=Lib.hid hI
  have HC:=Lib.hid hC
  have HB:=Lib.hid hb
  have HN:=Lib.hid hN
  clear hI h hl hb hN hC
  go_enter Tryz.func9,Tryz.ntmps9
  go_wp2_with (first | (go_at_call 34;refine (HI.out _ (by (exact kp))).mono ?_;rintro e w1 ⟨hk1,qs,rfl,hr1,hq1⟩) | fail)
  have l1:=hr1.lt
  refine (HC.out _ hk1).mono ?_
  rintro e w2 ⟨va,vc,rfl,hr2,hk2⟩
  go_wp2_with fail
  go_ret2
  have hk3:Keeps w2 (w2.alloc (.cells #[.slice va N vc,.slice (some ⟨w.heap.size,0,none⟩) N N] 94)):=(Keeps.refl _).alloc _
  have l2:=hk2.size
  refine ⟨(hk1.trans hk2).trans hk3,w2.heap.size,fun k=>w.heap.size ≤ k ∧ k ≤ w2.heap.size,rfl,⟨⟨va,vc,w.heap.size,N,qs,?_,hq1,fun hn=>?_,(hr1.keeps hk2).keeps hk3,by omega⟩,by omega,fun k hk=>by simp;omega,HB.out⟩,fun k hk=>hk.1⟩
  ·rw [← HN.out]
   exact heap_alloc_new w2 _
  ·obtain ⟨vg,e1,e2,e3⟩:=hr2 hn
   have:=e3.lt
   exact ⟨vg,e1,e3.keeps hk3,by omega,by omega⟩

theorem OrdRep.cells {F:Nat → Prop} {w:World} {ob:Nat} {ps:List Int} (h:OrdRep F w ob ps):∃ va vc lg lc,w.cell? ⟨ob,0,none⟩=some (.slice va ps.length vc) ∧ w.cell? ⟨ob,1,none⟩=some (.slice (some ⟨lg,0,none⟩) ps.length lc) ∧ IntsAt w va ps:=by
 obtain ⟨⟨va,vc,lg,lc,qs,h1,h2,h3,h4,h5⟩,_⟩:=h
 refine ⟨va,vc,lg,lc,by rw [cell_of_row w ob 0 _ _ _ h1];rfl,by rw [cell_of_row w ob 1 _ _ _ h1];rfl,fun i x hx=>?_⟩
 obtain ⟨vg,q1,q2,_⟩:=h3 (fun e=>by rw [e] at hx;simp at hx)
 rw [q1]
 exact q2.ints i x hx

theorem OrdRep.le {F:Nat → Prop} {w:World} {ob:Nat} {ps:List Int} (h:OrdRep F w ob ps):ps.length ≤ 16:=(permB_iff.1 h.perm).1

theorem ordVars_calls {F:Nat → Prop} {w:World} {ob:Nat} {ps:List Int} (h:OrdRep F w ob ps) :
  Calls Tryz.prog 38 #[.pointer (some ⟨ob,0,none⟩)] w fun e w'=>e=.returned (.int .i64 (ps.length:Int)) ∧ w=w':=by
 obtain ⟨va,vc,lg,lc,c0,c1,_⟩:=h.cells
 have hle:=h.le
 obtain ⟨n,hn⟩:∃ n,n=ps.length:=⟨_,rfl⟩
 rw [← hn] at c0 c1 hle ⊢
 clear h c1 hn
 go_enter Tryz.func38,Tryz.ntmps38
 go_wp2
 go_ret
 exact ⟨rfl,rfl⟩

theorem ordPerm_calls {F:Nat → Prop} {w:World} {ob:Nat} {ps:List Int} (h:OrdRep F w ob ps) :
  Calls Tryz.prog 40 #[.pointer (some ⟨ob,0,none⟩)] w fun e w'=>∃ a cap,e=.returned (.slice a ps.length cap) ∧ RowV w.heap.size w' a ps ∧ Keeps w w':=by
 obtain ⟨va,vc,lg,lc,c0,c1,hi⟩:=h.cells
 have hle:=h.le
 have hC:=fun W (hW:Keeps w W)=>clone_calls va vc ps W (hi.keeps hW) (by omega)
 obtain ⟨n,hn⟩:∃ n,n=ps.length:=⟨_,rfl⟩
 rw [← hn] at c0 c1 hC ⊢
 have HC:=Lib.hid hC
 clear h c1 hi hC hle hn
 go_enter Tryz.func40,Tryz.ntmps40
 go_wp2_with (first | (go_at_call 35;refine (HC.out _ (by (exact kp))).mono ?_;rintro e w1 ⟨a,cap,rfl,hr,hk⟩) | fail)
 go_ret
 exact ⟨a,cap,rfl,hr,hk⟩

theorem perm_of_sub:∀ (R ps:List Int),R.Nodup → (∀ x ∈ R,x ∈ ps) → ps.length ≤ R.length → ps.Perm R:=by
 intro R
 induction R with
 | nil=>
  intro ps _ _ hl
  rw [List.length_nil,Nat.le_zero,List.length_eq_zero_iff] at hl
  rw [hl]
 | cons x R ih=>
  intro ps hn hs hl
  rw [List.nodup_cons] at hn
  have hx:=hs x (by simp)
  have hp:=List.perm_cons_erase hx
  refine hp.trans (List.Perm.cons x (ih _ hn.2 (fun y hy=>?_) ?_))
  ·have hyx:y ≠ x:=fun e=>hn.1 (e ▸ hy)
   exact (List.mem_erase_of_ne hyx).2 (hs y (by simp [hy]))
  ·have:=hp.length_eq
   simp at this hl
   omega

def numsI (n:Nat):List Int:=(List.range n).map (fun i:Nat=>(i:Int))

theorem numsI_len (n:Nat):(numsI n).length=n:=by unfold numsI;simp

theorem mem_numsI {n:Nat} {x:Int}:x ∈ numsI n ↔ 0 ≤ x ∧ x < (n:Int):=by
 unfold numsI
 rw [List.mem_map]
 constructor
 ·rintro ⟨a,ha,rfl⟩
  rw [List.mem_range] at ha
  omega
 ·intro h
  exact ⟨x.toNat,by rw [List.mem_range];omega,by omega⟩

theorem nodup_numsI (n:Nat):(numsI n).Nodup:=by
 unfold numsI
 exact List.Pairwise.map _ (fun a b (h:a ≠ b) e=>h (by omega)) List.nodup_range

theorem permB_perm {ps:List Int}:permB ps=true ↔ (ps.length ≤ 16 ∧ ps.Perm (numsI ps.length)):=by
 rw [permB_iff]
 constructor
 ·rintro ⟨h1,h2,h3⟩
  exact ⟨h1,(perm_of_sub ps (numsI ps.length) h3 (fun x hx=>mem_numsI.2 (h2 x hx)) (by rw [numsI_len];omega)).symm⟩
 ·rintro ⟨h1,h2⟩
  exact ⟨h1,fun x hx=>mem_numsI.1 (h2.mem_iff.1 hx),h2.nodup_iff.2 (nodup_numsI _)⟩

theorem permB_count {ps:List Int} (h16:ps.length ≤ 16):permB ps=true ↔ ∀ i:Nat,i < ps.length → ps.count (i:Int)=1:=by
 rw [permB_perm]
 constructor
 ·rintro ⟨_,h⟩ i hi
  rw [h.count_eq,(nodup_numsI _).count,if_pos (mem_numsI.2 (by omega))]
 ·intro h
  refine ⟨h16,perm_of_sub _ _ (nodup_numsI _) (fun x hx=>?_) (by rw [numsI_len];omega)⟩
  obtain ⟨h0,h1⟩:=mem_numsI.1 hx
  have:=h x.toNat (by omega)
  rw [show ((x.toNat:Nat):Int)=x by omega] at this
  exact List.count_pos_iff.1 (by omega)

set_option maxRecDepth 100000 in
theorem refRight_calls (a:Option Addr) (cap:Nat) (ps:List Int) (w:World) (h:IntsAt w a ps) (hl:ps.length ≤ 16) :
  Calls Tryz.prog 14 #[.slice a ps.length cap] w fun e w'=>e=.returned (.bool (permB ps)) ∧ w=w':=by
 have hcnt:=permB_count hl
 obtain ⟨N,hN⟩:∃ N,N=ps.length:=⟨_,rfl⟩
 rw [← hN] at hl hcnt ⊢
 have H:=Lib.hid h
 have HN:=Lib.hid hN
 have HC:=Lib.hid hcnt
 clear h hN hcnt
 go_enter Tryz.func14,Tryz.ntmps14
 go_wp2
 go_loopg [3,4,5] N (fun gk s3 s4 s5 wr=>∃ (d:Nat),s3=.int .i64 (d:Int) ∧ d + gk=N ∧ (∀ i:Nat,i < d → ps.count (i:Int)=1) ∧ w=wr)
 case atStart=>exact ⟨0,rfl,by omega,fun i hi=>by omega,rfl⟩
 case round=>
  obtain ⟨d,rfl,hd,hall,rfl⟩:=hrel
  have HALL:=Lib.hid hall
  obtain ⟨g0,hg0⟩:∃ g,g=gk:=⟨_,rfl⟩
  have HG0:=Lib.hid hg0
  clear hall hg0
  by_cases hlt:d < N
  ·go_wp2_with fail
   go_loopg [4,5] N (fun gk s4 s5 wi=>∃ (j c:Nat),s5=.int .i64 (j:Int) ∧ s4=.int .i64 (c:Int) ∧ j + gk=N ∧ c=(ps.take j).count (d:Int) ∧ c ≤ j ∧ w=wi)
   case atStart=>exact ⟨0,0,rfl,rfl,by omega,by simp,by omega,rfl⟩
   case round=>
    obtain ⟨j,c,rfl,rfl,hj,hcc,hcj,rfl⟩:=hrel
    have HCC:=Lib.hid hcc
    clear hcc
    by_cases hjl:j < N
    ·obtain ⟨x,hx⟩:∃ b,ps[j]?=some b:=⟨_,List.getElem?_eq_getElem (by rw [← HN.out];exact hjl)⟩
     obtain ⟨b,off,rfl,hc⟩:=H.out j x hx
     have ht:=take_snoc hx
     have HT:=Lib.hid ht
     clear hx ht
     by_cases hxd:x=(d:Int)
     ·subst hxd
      go_wp2_with fail
      go_roundg (gk - 1)
      case rel=>exact ⟨j + 1,c + 1,by simp,by simp,by omega,by rw [HT.out,List.count_append,HCC.out];simp,by omega,rfl⟩
      case measure=>omega
     ·go_wp2_with fail
      go_roundg (gk - 1)
      case rel=>exact ⟨j + 1,c,by simp,rfl,by omega,by rw [HT.out,List.count_append,HCC.out];simp [hxd],by omega,rfl⟩
      case measure=>omega
    ·have hcp:c=ps.count (d:Int):=by
      rw [HCC.out,List.take_of_length_le (by rw [← HN.out];omega)]
     have HCP:=Lib.hid hcp
     clear hcp
     by_cases h1:c=1
     ·subst h1
      have hall:∀ i:Nat,i < d + 1 → ps.count (i:Int)=1:=fun i hi=>by
       by_cases e:i=d
       ·subst e;exact HCP.out.symm
       ·exact HALL.out i (by omega)
      have HALL2:=Lib.hid hall
      clear hall
      go_wp2_with fail
      go_roundg (g0 - 1)
      case rel=>exact ⟨d + 1,by simp,by have:=HG0.out;omega,HALL2.out,rfl⟩
      case measure=>have:=HG0.out;omega
     ·have hf:permB ps=false:=by
       cases hb:permB ps with
       | false=>rfl
       | true=>have:=HC.out.1 hb d hlt;have:=HCP.out;omega
      have HF:=Lib.hid hf
      have g1:((c:Int) != 1)=true:=by simp;omega
      clear hf
      go_wp2_with fail
      go_ret
      exact ⟨by rw [HF.out];rfl,rfl⟩
  ·have ht:permB ps=true:=HC.out.2 (fun i hi=>HALL.out i (by omega))
   have HT:=Lib.hid ht
   clear ht
   go_wp2_with fail
   go_ret
   exact ⟨by rw [HT.out];simp;omega,rfl⟩

end Go.Proofs.YtfpjogpjocedaaaGreat
