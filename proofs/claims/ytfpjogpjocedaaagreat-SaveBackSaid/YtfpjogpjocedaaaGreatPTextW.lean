/-
  save.read: bytes as a text.
-/
import Derived.Test.YtfpjogpjocedaaaGreatPTextB
import Derived.Test.YtfpjogpjocedaaaGreatPTextE
namespace Go.Proofs.YtfpjogpjocedaaaGreat
set_option linter.unusedSimpArgs false
set_option linter.unusedVariables false
set_option maxHeartbeats 600000
open Go Go.RowKit

theorem TxtRep.read {base:Nat} {w w':World} {tb rb:Nat} {n f:Int} {perm:List Int} {k:Int} {l:List Rec} {e:Edge} {rd:Option (List Int)} (h:TxtRep base w tb n f perm k l e) (hr:RdRep w rb rd) (hu:Upd (fun k=>k=rb) w w'):TxtRep base w' tb n f perm k l e:=
 h.upd hu (fun j cs t q hj ht _ e=>by
  subst e
  obtain ⟨a,len,cap,er,hb,_⟩:=hr.ex
  rw [hb] at hj
  cases hj
  rcases ht with ht | ht | ht <;> exact absurd ht (by decide))

theorem perm_grown {base tb:Nat} {w5 w6:World} {n f k:Int} {pv lv v6:Value} {pre:List Int} {l:List Rec} {e:Edge} {rd:Option (List Int)} {x:Int}
  (k1:w5.heap[tb]?=some (.cells #[.int .i64 n,.int .u8 f,pv,.int .i64 k,lv,.int .u8 e.tag,.int .u32 e.to] 100 (0,0))) (k2:w5.ownsRow base 3 1 pv pre.length (pre.map (Value.int .i64))) (k3:w5.ownsRow base 87 7 lv l.length (l.flatMap recVals)) (k4:base ≤ tb)
  (hr:RdRep w5 base rd) (hr6:w6.ownsRow base 3 1 v6 (pre.length + 1) (pre.map (Value.int .i64) ++ [.int .i64 x])) (hg:(w5.alloc (.cells #[.int .i64 x] 3)).grownBy w6 pv.ownBlock) :
  w6.cell? ⟨tb,2,none⟩=some pv ∧ (∀ o,w6.frozen? ⟨tb,o,none⟩=false) ∧ RdRep (w6.setCell ⟨tb,2,none⟩ v6) base rd ∧ TxtRep base (w6.setCell ⟨tb,2,none⟩ v6) tb n f (pre ++ [x]) k l e ∧ Upd (fun j=>base ≤ j) w5 (w6.setCell ⟨tb,2,none⟩ v6):=by
 have np:pv.ownBlock ≠ some tb:=TxtRep.row_ne k2 k1 (by decide)
 have nl:lv.ownBlock ≠ some tb:=TxtRep.row_ne k3 k1 (by decide)
 obtain ⟨ra,rlen,rcap,rer,hrb,-⟩:=hr.ex
 have nrb:pv.ownBlock ≠ some base:=TxtRep.row_ne k2 hrb (by decide)
 have ntb:tb ≠ base:=fun hh=>by rw [hh,hrb] at k1;cases k1
 have hu:Upd (fun j=>pv.ownBlock=some j) w5 w6:=(((Keeps.refl w5).alloc (.cells #[.int .i64 x] 3)).upd _).trans' ⟨hg.os,hg.tape,hg.output,hg.size,fun i hi hne=>hg.block i hi (fun e=>hne e.symm)⟩
 have h6:=(hu.block tb (lt_of_heap k1) np).trans k1
 have n6:v6.ownBlock ≠ some tb:=TxtRep.row_ne hr6 h6 (by decide)
 have hs:Upd (fun j=>j=tb) w6 (w6.setCell ⟨tb,2,none⟩ v6):=Upd.setCell (F:=fun j=>j=tb) (p:=⟨tb,2,none⟩) (Upd.refl _ _) (.inl rfl) _
 have k36:w6.ownsRow base 87 7 lv l.length (l.flatMap recVals):=hu.owns (fun j hj e=>by
  obtain ⟨c1,h1⟩:=owns_type k3 hj
  obtain ⟨c2,h2⟩:=owns_type k2 e
  rw [h1] at h2
  have:=Option.some.inj h2
  simp at this) k3
 refine ⟨by rw [cell_of_row w6 tb 2 _ _ _ h6];rfl,fun o=>frozen_of_row w6 tb o _ _ h6,?_,⟨⟨v6,lv,heap_setCell_same w6 tb 2 _ _ _ h6,?_,hs.owns (fun j hj e=>nl (by rw [hj,e])) k36⟩,k4⟩,?_⟩
 ·refine (hr.upd hu (fun j hj e=>?_)).upd hs (fun j hj e=>by omega)
  have h1:=row_from k2 e
  have h2:j ≠ base:=fun hh=>nrb (by rw [e,hh])
  omega
 ·rw [List.map_append,List.length_append]
  exact hs.owns (fun j hj e=>n6 (by rw [hj,e])) hr6
 ·exact (hu.mono (fun j _ hj=>row_from k2 hj)).trans' (hs.mono (fun j _ hj=>by omega))

set_option maxRecDepth 100000 in
set_option maxHeartbeats 2000000 in
theorem read_calls (a:Option Addr) (cap:Nat) (bs:List Int) (w:World) (h:BsAt w a bs) (hb:IsBs bs) (hl:bs.length ≤ 1073741824) (hc:bs.length ≤ cap) :
  Calls Tryz.prog 82 #[.slice a bs.length cap] w fun e w'=>∃ tb ok,e=.returned (.tuple #[.pointer (some ⟨tb,0,none⟩),.bool ok]) ∧ (ok=true ↔ ∃ T,readB bs=some T ∧ isFormB (T.form:Int)=true) ∧ (∀ T,readB bs=some T → TxtRep w.heap.size w' tb T.vars T.form T.perm T.l.length T.l T.e) ∧ Keeps w w':=by
 have HNR:=Lib.hid (newReader_calls a cap bs w h hb hl hc)
 obtain ⟨K,hK⟩:∃ K,K=bs.length:=⟨_,rfl⟩
 rw [← hK] at HNR hl ⊢
 have HK:=Lib.hid hK
 clear h hb hc hK
 obtain ⟨⟨n0,rd0⟩,hn0⟩:∃ p,p=numR 16 (some bs):=⟨_,rfl⟩
 obtain ⟨⟨f0,rd1⟩,hf0⟩:∃ p,p=numR 5 rd0:=⟨_,rfl⟩
 have hn16:=numR_le 16 (some bs)
 have hf5:=numR_le 5 rd0
 rw [← hn0] at hn16
 rw [← hf0] at hf5
 simp only [] at hn16 hf5
 have HN1:=Lib.hid (fun (W:World) (rb:Nat) (hR:RdRep W rb (some bs))=>rdNum_calls hR 16 (by omega))
 have HN2:=Lib.hid (fun (W:World) (rb:Nat) (hR:RdRep W rb rd0)=>rdNum_calls hR 5 (by omega))
 rw [← hn0] at HN1
 rw [← hf0] at HN2
 go_enter Tryz.func82,Tryz.ntmps82
 go_wp2_with fail
 refine HNR.out.mono ?_
 rintro e w1 ⟨rfl,hr1,hk1⟩
 have hT:=TxtRep.new w1 w.heap.size hk1.size
 have hlt0:w.heap.size < w1.heap.size:=by obtain ⟨a,len,cap,er,hb,_⟩:=hr1.ex;exact lt_of_heap hb
 obtain ⟨W2,hW2⟩:∃ W,W=w1.alloc (.cells #[.int .i64 0,.int .u8 0,.slice none 0 0,.int .i64 0,.slice none 0 0,.int .u8 0,.int .u32 0] 100):=⟨_,rfl⟩
 rw [← hW2] at hT
 have HT:=Lib.hid hT
 have HR1:=Lib.hid (hr1.keeps (show Keeps w1 W2 by rw [hW2];exact (Keeps.refl w1).alloc _))
 have HK1:=Lib.hid (hk1.trans (show Keeps w1 W2 by rw [hW2];exact (Keeps.refl w1).alloc _))
 have hn0':=Lib.hid hn0
 have hf0':=Lib.hid hf0
 clear hT hr1 hk1 hn0 hf0
 go_wp2_with (first
  | (go_at_call 126;have q:=HT;clear q;rw [← hW2];refine (HN1.out _ _ HR1.out).mono ?_;rintro e w2 ⟨rfl,hr2,hu2⟩;have hT2:=HT.out.read HR1.out hu2;have y1:=hT2.cells.2.1;have y0:=hT2.cells.1;have yf:=hT2.cells.2.2.2.2.2;have HT2:=Lib.hid (hT2.set.1 (n0:Int));have hu3:Upd (fun k=>k=w1.heap.size) w2 (w2.setCell ⟨w1.heap.size,0,none⟩ (.int .i64 (n0:Int))):=Upd.setCell (F:=fun k=>k=w1.heap.size) (p:=⟨w1.heap.size,0,none⟩) (Upd.refl _ _) (.inl rfl) _;have HR2:=Lib.hid (hr2.upd hu3 (fun k hk e=>by omega));have HK2:=Lib.hid ((HK1.out.new hu2 (fun k hk=>by omega)).new hu3 (fun k hk=>by omega));clear hT2 hu2 hu3 hr2 HT hW2 HR1 HK1 HN1)
  | (go_at_call 126;refine (HN2.out _ _ HR2.out).mono ?_;rintro e w3 ⟨rfl,hr3,hu3⟩;have hT3:=HT2.out.read HR2.out hu3;have x0:=hT3.cells.1;have x1:=hT3.cells.2.1;have xf:=hT3.cells.2.2.2.2.2;have HT3:=Lib.hid (hT3.set.2.1 (f0:Int));have hu4:Upd (fun k=>k=w1.heap.size) w3 (w3.setCell ⟨w1.heap.size,1,none⟩ (.int .u8 (f0:Int))):=Upd.setCell (F:=fun k=>k=w1.heap.size) (p:=⟨w1.heap.size,1,none⟩) (Upd.refl _ _) (.inl rfl) _;have HR3:=Lib.hid (hr3.upd hu4 (fun k hk e=>by omega));have HK3:=Lib.hid ((HK2.out.new hu3 (fun k hk=>by omega)).new hu4 (fun k hk=>by omega));clear hT3 hu3 hu4 hr3 HT2 HR2 HK2 y0 y1 yf HN2)
  | fail)
 go_loopg [31] n0 (fun gk s31 wr=>∃ (d:Nat) (pre:List Int) (rd:Option (List Int)),s31=.int .i64 (d:Int) ∧ d + gk=n0 ∧ NumsAt n0 rd1 d pre rd ∧ RdRep wr w.heap.size rd ∧ TxtRep w.heap.size wr w1.heap.size (n0:Int) (f0:Int) pre 0 [] ⟨0,0⟩ ∧ Keeps w wr)
 case atStart=>exact ⟨0,[],rd1,rfl,by omega,NumsAt.start _ _,HR3.out,HT3.out,HK3.out⟩
 case round=>
  obtain ⟨d,pre,rd,rfl,hd,hA,hR,hT,hKW⟩:=hrel
  have HA:=Lib.hid hA
  have HRW:=Lib.hid (hR.keeps ((Keeps.refl wr).drew))
  have HTW:Hid (TxtRep w.heap.size wr.drew w1.heap.size (n0:Int) (f0:Int) pre 0 [] ⟨0,0⟩):=Lib.hid (hT.upd ((Keeps.refl wr).drew.upd (fun _=>False)) (fun _ _ _ _ _ _ _ h=>h))
  have HKW:=Lib.hid hKW
  have x0:=hT.cells.1
  by_cases hlt:d < n0
  ·obtain ⟨⟨pv,lv,h1,h2,h3⟩,h4⟩:=hT
   have e2:wr.cell? ⟨w1.heap.size,2,none⟩=some pv:=by rw [cell_of_row wr w1.heap.size 2 _ _ _ h1];rfl
   have nrb:¬ (w1.heap.size=w.heap.size):=by omega
   have HNX:=Lib.hid (fun (W:World) (hR:RdRep W w.heap.size rd)=>rdNum_calls hR 16 (by omega))
   have hx16:=numR_le 16 rd
   have HNA:=Lib.hid (hA.next hlt)
   obtain ⟨⟨n,rd'⟩,hnr⟩:∃ p,p=numR 16 rd:=⟨_,rfl⟩
   rw [← hnr] at HNX HNA hx16
   have hx16':n ≤ 16:=hx16
   have hwn:IntKind.i64.wrap (n:Int)=(n:Int):=wrap_nat64 n (by omega)
   have i1:(d:Int) < (n0:Int):=by omega
   have HNL:Hid (pre.length ≤ 16):=Lib.hid (by rw [hA.len];omega)
   clear hA hR hKW h1 h2 h3 h4 hnr
   go_wp2_with fail
   refine wp_region_any (by kernel_rfl) ?_
   refine wpAny_take (i:=0) (v:=?_) rfl (by kernel_rfl) (by kernel_rfl) (by kernel_rfl) (fun _ _ _ h=>h) (Or.inl ⟨by rfl,?_⟩) ?_
   rotate_left
   ·intro w;go_simp;try with_reducible rfl
   refine wpAny_take (i:=1) (v:=?_) rfl (by kernel_rfl) (by kernel_rfl) (by kernel_rfl) (fun _ _ _ h=>h) (Or.inl ⟨by rfl,?_⟩) ?_
   rotate_left
   ·intro w;go_simp;try with_reducible rfl
   refine wpAny_take (i:=2) (v:=?_) rfl (by kernel_rfl) (by kernel_rfl) (by kernel_rfl) (fun _ _ _ h=>h) (Or.inl ⟨by rfl,?_⟩) ?_
   rotate_left
   ·intro w;go_simp;try with_reducible rfl
   refine wpAny_take (i:=3) (v:=?_) rfl (by kernel_rfl) (by kernel_rfl) (by kernel_rfl) (fun _ _ _ h=>h) (Or.inl ⟨by rfl,?_⟩) ?_
   rotate_left
   ·intro w;go_simp;try with_reducible rfl
   refine wpAny_take (i:=4) (v:=?_) rfl (by kernel_rfl) (by kernel_rfl) (by kernel_rfl) (fun _ _ _ h=>h) (Or.inl ⟨by rfl,?_⟩) ?_
   rotate_left
   ·intro w;go_simp;try with_reducible rfl
   refine wpAny_take (i:=6) (v:=?_) rfl (by kernel_rfl) (by kernel_rfl) (by kernel_rfl) (fun _ _ _ h=>h) (Or.inl ⟨by rfl,?_⟩) ?_
   rotate_left
   ·intro w;go_simp;try with_reducible rfl
   refine wpAny_ready (rs:=[5,7]) (by kernel_rfl) (by decide) (AllReady.cons rfl (fun K hK=>?_) (AllReady.cons rfl (fun K hK=>?_) AllReady.nil))
   ·go_simp
    refine hK _ _ ?_
    clear hK K
    refine wpAny_ready (rs:=[7]) (by kernel_rfl) (by decide) (AllReady.cons rfl (fun K hK=>?_) AllReady.nil)
    go_simp
    refine (HNX.out _ HRW.out).mono ?_
    rintro e w5 ⟨rfl,hr5,hu5⟩
    replace e2:=hu5.cellAt nrb e2
    have hT5:=HTW.out.read HRW.out hu5
    refine hK _ _ ?_
    clear hK K
    obtain ⟨⟨pv5,lv5,k1,k2,k3⟩,k4⟩:=hT5
    have e5:w5.cell? ⟨w1.heap.size,2,none⟩=some pv5:=by rw [cell_of_row w5 w1.heap.size 2 _ _ _ k1];rfl
    rw [e2] at e5
    obtain rfl:pv=pv5:=Option.some.inj e5
    have l5:w1.heap.size < w5.heap.size:=lt_of_heap k1
    have l5n:w1.heap.size ≠ w5.heap.size:=by omega
    refine wpAny_take (i:=8) (v:=?_) rfl (by kernel_rfl) (by kernel_rfl) (by kernel_rfl) (fun _ _ _ h=>h) (Or.inl ⟨by rfl,?_⟩) ?_
    rotate_left
    ·intro w;go_simp;try with_reducible rfl
    refine wpAny_ready (rs:=[9]) (by kernel_rfl) (by decide) (AllReady.cons rfl (fun K hK=>?_) AllReady.nil)
    go_simp
    refine hK _ _ ?_
    clear hK K
    refine wpAny_ready (rs:=[10]) (by kernel_rfl) (by decide) (AllReady.cons rfl (fun K hK=>?_) AllReady.nil)
    obtain ⟨i0,hi,hz0,hz1,hz2⟩:=info_parts info_int
    refine wp_append_fresh (.tmp 38) (.tmp 42) 23 rfl w.heap.size 3 i0 (.int .i64 0) 1 8 Tryz.underlying23 hi hz0 hz1 hz2 rfl (by decide) pv pre.length (pre.map (Value.int .i64)) rfl (((Keeps.refl w5).alloc (.cells #[.int .i64 (n:Int)] 3)).owns k2) ⟨w5.heap.size,0,none⟩ 1 1 [.int .i64 (n:Int)] rfl rfl (cell_new _ _ _ _ rfl) (by intro u hu;rw [List.mem_singleton] at hu;subst hu;rfl) (by have:=HNL.out;unfold maxLen;omega) (by have:=HNL.out;omega) (by rw [World.size_alloc];omega) ?_
    intro v6 w6 hr6 hg6 _
    have HPK:=Lib.hid (perm_grown k1 k2 k3 k4 hr5 hr6 hg6)
    obtain ⟨va,vcap,rfl,-⟩:=owns_slice hr6
    have q2:w6.cell? ⟨w1.heap.size,2,none⟩=some pv:=HPK.out.1
    have qf:=HPK.out.2.1
    have HK6:=Lib.hid (((HKW.out.drew).new hu5 (fun k hk=>by omega)).new HPK.out.2.2.2.2 (fun k hk=>hk))
    clear hr6 hg6 k1 k2 k3 k4 e2 hr5 hu5
    refine hK _ _ ?_
    clear hK K
    refine wpAny_take (i:=11) (v:=?_) rfl (by kernel_rfl) (by kernel_rfl) (by kernel_rfl) (fun _ _ _ h=>h) (Or.inl ⟨by rfl,?_⟩) ?_
    rotate_left
    ·intro w;go_simp;try with_reducible rfl
    refine wpAny_take (i:=12) (v:=?_) rfl (by kernel_rfl) (by kernel_rfl) (by kernel_rfl) (fun _ _ _ h=>h) (Or.inl ⟨by rfl,?_⟩) ?_
    rotate_left
    ·intro w;go_simp;try with_reducible rfl
    refine wpAny_take (i:=13) (v:=?_) rfl (by kernel_rfl) (by kernel_rfl) (by kernel_rfl) (fun _ _ _ h=>h) (Or.inl ⟨by rfl,?_⟩) ?_
    rotate_left
    ·intro w;go_simp;try with_reducible rfl
    refine wpAny_ready (rs:=[14]) (by kernel_rfl) (by decide) (AllReady.cons rfl (fun K hK=>?_) AllReady.nil)
    go_simp
    refine hK _ _ ?_
    clear hK K
    refine wpAny_done (by kernel_rfl) ?_ _
    go_wp2_with fail
    go_roundg (gk - 1)
    case rel=>exact ⟨d + 1,pre ++ [(n:Int)],rd',by simp,by omega,HNA.out,HPK.out.2.2.1,HPK.out.2.2.2.1,HK6.out⟩
    case measure=>omega
   ·go_simp
    refine (HNX.out _ HRW.out).mono ?_
    rintro e w5 ⟨rfl,hr5,hu5⟩
    replace e2:=hu5.cellAt nrb e2
    have hT5:=HTW.out.read HRW.out hu5
    refine hK _ _ ?_
    clear hK K
    obtain ⟨⟨pv5,lv5,k1,k2,k3⟩,k4⟩:=hT5
    have e5:w5.cell? ⟨w1.heap.size,2,none⟩=some pv5:=by rw [cell_of_row w5 w1.heap.size 2 _ _ _ k1];rfl
    rw [e2] at e5
    obtain rfl:pv=pv5:=Option.some.inj e5
    have l5:w1.heap.size < w5.heap.size:=lt_of_heap k1
    have l5n:w1.heap.size ≠ w5.heap.size:=by omega
    refine wpAny_take (i:=8) (v:=?_) rfl (by kernel_rfl) (by kernel_rfl) (by kernel_rfl) (fun _ _ _ h=>h) (Or.inl ⟨by rfl,?_⟩) ?_
    rotate_left
    ·intro w;go_simp;try with_reducible rfl
    refine wpAny_ready (rs:=[5,9]) (by kernel_rfl) (by decide) (AllReady.cons rfl (fun K hK=>?_) (AllReady.cons rfl (fun K hK=>?_) AllReady.nil))
    ·go_simp
     refine hK _ _ ?_
     clear hK K
     refine wpAny_ready (rs:=[9]) (by kernel_rfl) (by decide) (AllReady.cons rfl (fun K hK=>?_) AllReady.nil)
     go_simp
     refine hK _ _ ?_
     clear hK K
     refine wpAny_ready (rs:=[10]) (by kernel_rfl) (by decide) (AllReady.cons rfl (fun K hK=>?_) AllReady.nil)
     obtain ⟨i0,hi,hz0,hz1,hz2⟩:=info_parts info_int
     refine wp_append_fresh (.tmp 38) (.tmp 42) 23 rfl w.heap.size 3 i0 (.int .i64 0) 1 8 Tryz.underlying23 hi hz0 hz1 hz2 rfl (by decide) pv pre.length (pre.map (Value.int .i64)) rfl (((Keeps.refl w5).alloc (.cells #[.int .i64 (n:Int)] 3)).owns k2) ⟨w5.heap.size,0,none⟩ 1 1 [.int .i64 (n:Int)] rfl rfl (cell_new _ _ _ _ rfl) (by intro u hu;rw [List.mem_singleton] at hu;subst hu;rfl) (by have:=HNL.out;unfold maxLen;omega) (by have:=HNL.out;omega) (by rw [World.size_alloc];omega) ?_
     intro v6 w6 hr6 hg6 _
     have HPK:=Lib.hid (perm_grown k1 k2 k3 k4 hr5 hr6 hg6)
     obtain ⟨va,vcap,rfl,-⟩:=owns_slice hr6
     have q2:w6.cell? ⟨w1.heap.size,2,none⟩=some pv:=HPK.out.1
     have qf:=HPK.out.2.1
     have HK6:=Lib.hid (((HKW.out.drew).new hu5 (fun k hk=>by omega)).new HPK.out.2.2.2.2 (fun k hk=>hk))
     clear hr6 hg6 k1 k2 k3 k4 e2 hr5 hu5
     refine hK _ _ ?_
     clear hK K
     refine wpAny_take (i:=11) (v:=?_) rfl (by kernel_rfl) (by kernel_rfl) (by kernel_rfl) (fun _ _ _ h=>h) (Or.inl ⟨by rfl,?_⟩) ?_
     rotate_left
     ·intro w;go_simp;try with_reducible rfl
     refine wpAny_take (i:=12) (v:=?_) rfl (by kernel_rfl) (by kernel_rfl) (by kernel_rfl) (fun _ _ _ h=>h) (Or.inl ⟨by rfl,?_⟩) ?_
     rotate_left
     ·intro w;go_simp;try with_reducible rfl
     refine wpAny_take (i:=13) (v:=?_) rfl (by kernel_rfl) (by kernel_rfl) (by kernel_rfl) (fun _ _ _ h=>h) (Or.inl ⟨by rfl,?_⟩) ?_
     rotate_left
     ·intro w;go_simp;try with_reducible rfl
     refine wpAny_ready (rs:=[14]) (by kernel_rfl) (by decide) (AllReady.cons rfl (fun K hK=>?_) AllReady.nil)
     go_simp
     refine hK _ _ ?_
     clear hK K
     refine wpAny_done (by kernel_rfl) ?_ _
     go_wp2_with fail
     go_roundg (gk - 1)
     case rel=>exact ⟨d + 1,pre ++ [(n:Int)],rd',by simp,by omega,HNA.out,HPK.out.2.2.1,HPK.out.2.2.2.1,HK6.out⟩
     case measure=>omega
    ·go_simp
     refine hK _ _ ?_
     clear hK K
     refine wpAny_ready (rs:=[5]) (by kernel_rfl) (by decide) (AllReady.cons rfl (fun K hK=>?_) AllReady.nil)
     go_simp
     refine hK _ _ ?_
     clear hK K
     refine wpAny_ready (rs:=[10]) (by kernel_rfl) (by decide) (AllReady.cons rfl (fun K hK=>?_) AllReady.nil)
     obtain ⟨i0,hi,hz0,hz1,hz2⟩:=info_parts info_int
     refine wp_append_fresh (.tmp 38) (.tmp 42) 23 rfl w.heap.size 3 i0 (.int .i64 0) 1 8 Tryz.underlying23 hi hz0 hz1 hz2 rfl (by decide) pv pre.length (pre.map (Value.int .i64)) rfl (((Keeps.refl w5).alloc (.cells #[.int .i64 (n:Int)] 3)).owns k2) ⟨w5.heap.size,0,none⟩ 1 1 [.int .i64 (n:Int)] rfl rfl (cell_new _ _ _ _ rfl) (by intro u hu;rw [List.mem_singleton] at hu;subst hu;rfl) (by have:=HNL.out;unfold maxLen;omega) (by have:=HNL.out;omega) (by rw [World.size_alloc];omega) ?_
     intro v6 w6 hr6 hg6 _
     have HPK:=Lib.hid (perm_grown k1 k2 k3 k4 hr5 hr6 hg6)
     obtain ⟨va,vcap,rfl,-⟩:=owns_slice hr6
     have q2:w6.cell? ⟨w1.heap.size,2,none⟩=some pv:=HPK.out.1
     have qf:=HPK.out.2.1
     have HK6:=Lib.hid (((HKW.out.drew).new hu5 (fun k hk=>by omega)).new HPK.out.2.2.2.2 (fun k hk=>hk))
     clear hr6 hg6 k1 k2 k3 k4 e2 hr5 hu5
     refine hK _ _ ?_
     clear hK K
     refine wpAny_take (i:=11) (v:=?_) rfl (by kernel_rfl) (by kernel_rfl) (by kernel_rfl) (fun _ _ _ h=>h) (Or.inl ⟨by rfl,?_⟩) ?_
     rotate_left
     ·intro w;go_simp;try with_reducible rfl
     refine wpAny_take (i:=12) (v:=?_) rfl (by kernel_rfl) (by kernel_rfl) (by kernel_rfl) (fun _ _ _ h=>h) (Or.inl ⟨by rfl,?_⟩) ?_
     rotate_left
     ·intro w;go_simp;try with_reducible rfl
     refine wpAny_take (i:=13) (v:=?_) rfl (by kernel_rfl) (by kernel_rfl) (by kernel_rfl) (fun _ _ _ h=>h) (Or.inl ⟨by rfl,?_⟩) ?_
     rotate_left
     ·intro w;go_simp;try with_reducible rfl
     refine wpAny_ready (rs:=[14]) (by kernel_rfl) (by decide) (AllReady.cons rfl (fun K hK=>?_) AllReady.nil)
     go_simp
     refine hK _ _ ?_
     clear hK K
     refine wpAny_done (by kernel_rfl) ?_ _
     go_wp2_with fail
     go_roundg (gk - 1)
     case rel=>exact ⟨d + 1,pre ++ [(n:Int)],rd',by simp,by omega,HNA.out,HPK.out.2.2.1,HPK.out.2.2.2.1,HK6.out⟩
     case measure=>omega
  ·have hdn:d=n0:=by omega
   subst hdn
   obtain ⟨hpre,hrd⟩:=hA.end
   obtain ⟨⟨k0,rd2⟩,hk0⟩:∃ p,p=numR K rd:=⟨_,rfl⟩
   have hk0le:=numR_le K rd
   rw [← hk0] at hk0le
   have hk0le':k0 ≤ K:=hk0le
   have HN3:=Lib.hid (fun (W:World) (hR:RdRep W w.heap.size rd)=>rdNum_calls hR K (by omega))
   rw [← hk0] at HN3
   have HPRE:=Lib.hid hpre
   have HRD:=Lib.hid hrd
   have HK0:=Lib.hid hk0
   have HR4:=Lib.hid hR
   have HT4:=Lib.hid hT
   have gd:¬ ((d:Int) < (d:Int)):=by omega
   clear hA hR hT hKW hpre hrd hk0 hk0le HRW HTW HA x0 HR3 HT3 HK3
   go_wp2_with (first
    | (go_at_call 126;refine (HN3.out _ HR4.out).mono ?_;rintro e w4 ⟨rfl,hr5,hu5⟩;have hT5:=HT4.out.read HR4.out hu5;have x1:=hT5.cells.2.1;have x3:=hT5.cells.2.2.1;have xf:=hT5.cells.2.2.2.2.2;have HT5:=Lib.hid (hT5.set.2.2 (k0:Int));have hu6:Upd (fun k=>k=w1.heap.size) w4 (w4.setCell ⟨w1.heap.size,3,none⟩ (.int .i64 (k0:Int))):=Upd.setCell (F:=fun k=>k=w1.heap.size) (p:=⟨w1.heap.size,3,none⟩) (Upd.refl _ _) (.inl rfl) _;have HR5:=Lib.hid (hr5.upd hu6 (fun k hk e=>by omega));have HK5:=Lib.hid ((HKW.out.new hu5 (fun k hk=>by omega)).new hu6 (fun k hk=>by omega));clear hT5 hu5 hu6 hr5 HT4 HR4 HKW)
    | fail)
   obtain ⟨perm,hperm⟩:∃ perm,perm=pre:=⟨_,rfl⟩
   rw [← hperm] at HT5
   have HPM:=Lib.hid hperm
   clear gd hperm
   go_loopg [6] k0 (fun gk s6 wr=>∃ (i:Nat) (pr:List Rec) (rdi:Option (List Int)),s6=.int .i64 (i:Int) ∧ i + gk=k0 ∧ RecsAt (f0:Int) k0 rd2 i pr rdi ∧ RdRep wr w.heap.size rdi ∧ TxtRep w.heap.size wr w1.heap.size (d:Int) (f0:Int) perm (k0:Int) pr ⟨0,0⟩ ∧ Keeps w wr)
   case atStart=>exact ⟨0,[],rd2,rfl,by omega,RecsAt.start _ _ _,HR5.out,HT5.out,HK5.out⟩
   case round=>
    obtain ⟨i,pr,rdi,rfl,hi,hA,hR,hT,hKW⟩:=hrel
    have e3:=hT.cells.2.2.1
    have e1:=hT.cells.2.1
    have ef:=hT.cells.2.2.2.2.2
    have xlt:w1.heap.size < wr.heap.size:=by obtain ⟨⟨_,_,h1,_⟩,_⟩:=hT;exact lt_of_heap h1
    have wlt:w.heap.size < w1.heap.size:=hlt0
    have rlt:w.heap.size < wr.heap.size:=by omega
    have nwr:¬ (wr.heap.size=w.heap.size):=by omega
    have nrb:¬ (w1.heap.size=w.heap.size):=by omega
    have HE:=Lib.hid (rdErr_calls hR)
    have HA:=Lib.hid hA
    have HTW:=Lib.hid hT
    have HRW:=Lib.hid hR
    have HKW:=Lib.hid hKW
    by_cases hgo:i < k0 ∧ rdi ≠ none
    ·obtain ⟨hik,hne⟩:=hgo
     have i1:(i:Int) < (k0:Int):=by omega
     have HPL:Hid (pr.length ≤ 1073741824):=Lib.hid (by rw [hA.len];omega)
     have hnx:=hA.next hik
     unfold recR at hnx
     have HN1:=Lib.hid (fun (W:World) (hW:Keeps wr W)=>rdNum_calls (hR.keeps hW) 16 (by omega))
     have hn1:=numR_le 16 rdi
     have hn2':(botR (f0:Int) rdi).1 ≤ 16:=by unfold botR;split;exact numR_le _ _;exact hn1
     have hbt:((f0:Int)=3 ∨ (f0:Int)=4 → botR (f0:Int) rdi=numR 16 (numR 16 rdi).2) ∧ (¬ ((f0:Int)=3 ∨ (f0:Int)=4) → botR (f0:Int) rdi=numR 16 rdi):=⟨fun h=>if_pos h,fun h=>if_neg h⟩
     obtain ⟨⟨nb,rdB⟩,hnB⟩:∃ p,p=botR (f0:Int) rdi:=⟨_,rfl⟩
     rw [← hnB] at hnx hbt hn2'
     obtain ⟨⟨n1,rdA⟩,hnA⟩:∃ p,p=numR 16 rdi:=⟨_,rfl⟩
     rw [← hnA] at HN1 hn1 hbt hnx
     simp only [] at hn1 hn2' hnx hbt
     have HC3:=Lib.hid (fun (W:World) (hR:RdRep W w.heap.size rdB)=>readEdge_calls hR (f0:Int) i (by omega))
     obtain ⟨⟨lo,rdC⟩,hlo⟩:∃ p,p=edgeR (f0:Int) i rdB:=⟨_,rfl⟩
     rw [← hlo] at HC3 hnx
     have HC4:=Lib.hid (fun (W:World) (hR:RdRep W w.heap.size rdC)=>readEdge_calls hR (f0:Int) i (by omega))
     simp only [] at hnx
     obtain ⟨⟨hh,rdE⟩,hhh⟩:∃ p,p=edgeR (f0:Int) i rdC:=⟨_,rfl⟩
     rw [← hhh] at HC4 hnx
     simp only [] at hnx
     have HNX:=Lib.hid hnx
     have hw1:IntKind.u8.wrap (n1:Int)=(n1:Int):=by rw [wrap_byte,Nat.mod_eq_of_lt (by omega)]
     have hw2:IntKind.u8.wrap (nb:Int)=(nb:Int):=by rw [wrap_byte,Nat.mod_eq_of_lt (by omega)]
     have HNE:=Lib.hid hne
     have HBT:=Lib.hid hbt
     clear hA hR hT hKW hnA hne hnB hlo hhh hbt hnx
     go_wp2_with (first | (go_at_call 127;refine HE.out.mono ?_;rintro e w3 ⟨x,rfl,hx,rfl⟩;have hx0:x=0:=hx.2 HNE.out;subst hx0;clear hx) | fail)
     go_cut [7] (fun s7 wx=>∃ X,s7=.pointer (some ⟨X,0,none⟩) ∧ BodyAt wr wx w.heap.size X ⟨f0,n1,0,⟨0,0⟩,⟨0,0⟩⟩ rdA)
     case first=>
        refine wp_region_any (by kernel_rfl) ?_
        refine wpAny_take (i:=0) (v:=?_) rfl (by kernel_rfl) (by kernel_rfl) (by kernel_rfl) (fun _ _ _ h=>h) (Or.inl ⟨by rfl,?_⟩) ?_
        rotate_left
        ·intro w;go_simp;try with_reducible rfl
        refine wpAny_take (i:=1) (v:=?_) rfl (by kernel_rfl) (by kernel_rfl) (by kernel_rfl) (fun _ _ _ h=>h) (Or.inl ⟨by rfl,?_⟩) ?_
        rotate_left
        ·intro w;go_simp;try with_reducible rfl
        refine wpAny_take (i:=2) (v:=?_) rfl (by kernel_rfl) (by kernel_rfl) (by kernel_rfl) (fun _ _ _ h=>h) (Or.inl ⟨by rfl,?_⟩) ?_
        rotate_left
        ·intro w;go_simp;try with_reducible rfl
        refine wpAny_take (i:=3) (v:=?_) rfl (by kernel_rfl) (by kernel_rfl) (by kernel_rfl) (fun _ _ _ h=>h) (Or.inl ⟨by rfl,?_⟩) ?_
        rotate_left
        ·intro w;go_simp;try with_reducible rfl
        refine wpAny_take (i:=5) (v:=?_) rfl (by kernel_rfl) (by kernel_rfl) (by kernel_rfl) (fun _ _ _ h=>h) (Or.inl ⟨by rfl,?_⟩) ?_
        rotate_left
        ·intro w;go_simp;try with_reducible rfl
        refine wpAny_ready (rs:=[4,6,9]) (by kernel_rfl) (by decide) (AllReady.cons rfl (fun K hK=>?_) (AllReady.cons rfl (fun K hK=>?_) (AllReady.cons rfl (fun K hK=>?_) AllReady.nil)))
        ·go_simp
         refine hK _ _ ?_
         clear hK K
         refine wpAny_ready (rs:=[6,9]) (by kernel_rfl) (by decide) (AllReady.cons rfl (fun K hK=>?_) (AllReady.cons rfl (fun K hK=>?_) AllReady.nil))
         ·go_simp
          refine (HN1.out _ (by (exact kp))).mono ?_
          rintro e w5 ⟨rfl,hr5,hu5⟩
          have s5:=hu5.size
          have xl5:w1.heap.size < w5.heap.size:=by (try simp only [World.size_drew,World.size_alloc] at s5);omega
          refine hK _ _ ?_
          clear hK K
          refine wpAny_take (i:=7) (v:=?_) rfl (by kernel_rfl) (by kernel_rfl) (by kernel_rfl) (fun _ _ _ h=>h) (Or.inl ⟨by rfl,?_⟩) ?_
          rotate_left
          ·intro w;go_simp;try with_reducible rfl
          refine wpAny_take (i:=8) (v:=?_) rfl (by kernel_rfl) (by kernel_rfl) (by kernel_rfl) (fun _ _ _ h=>h) (Or.inl ⟨by rfl,?_⟩) ?_
          rotate_left
          ·intro w;go_simp;try with_reducible rfl
          refine wpAny_ready (rs:=[9]) (by kernel_rfl) (by decide) (AllReady.cons rfl (fun K hK=>?_) AllReady.nil)
          go_simp
          refine hK _ _ ?_
          clear hK K
          refine wpAny_ready (rs:=[10]) (by kernel_rfl) (by decide) (AllReady.cons rfl (fun K hK=>?_) AllReady.nil)
          go_simp
          refine hK _ _ ?_
          clear hK K
          refine wpAny_done (by kernel_rfl) ?_ _
          go_wp2_with fail
          go_meet
          exact ⟨_,rfl,body_late (r:=⟨f0,n1,0,⟨0,0⟩,⟨0,0⟩⟩) (by (exact kp)) hr5 hu5 rlt⟩
         ·go_simp
          refine hK _ _ ?_
          clear hK K
          refine wpAny_ready (rs:=[6]) (by kernel_rfl) (by decide) (AllReady.cons rfl (fun K hK=>?_) AllReady.nil)
          go_simp
          refine (HN1.out _ (by (exact kp))).mono ?_
          rintro e w5 ⟨rfl,hr5,hu5⟩
          have s5:=hu5.size
          have xl5:w1.heap.size < w5.heap.size:=by (try simp only [World.size_drew,World.size_alloc] at s5);omega
          have hB5:RecBox w5 wr.heap.size ⟨0,0,0,⟨0,0⟩,⟨0,0⟩⟩:=RecBox.upd (G:=fun k=>k=w.heap.size) ⟨heap_alloc_new (wr.drew) _⟩ hu5 nwr
          obtain ⟨b0,b1,b2,b3,b4,b5,b6,bf⟩:=hB5.cells
          refine hK _ _ ?_
          clear hK K
          refine wpAny_take (i:=7) (v:=?_) rfl (by kernel_rfl) (by kernel_rfl) (by kernel_rfl) (fun _ _ _ h=>h) (Or.inl ⟨by rfl,?_⟩) ?_
          rotate_left
          ·intro w;go_simp;try with_reducible rfl
          refine wpAny_take (i:=8) (v:=?_) rfl (by kernel_rfl) (by kernel_rfl) (by kernel_rfl) (fun _ _ _ h=>h) (Or.inl ⟨by rfl,?_⟩) ?_
          rotate_left
          ·intro w;go_simp;try with_reducible rfl
          refine wpAny_ready (rs:=[10]) (by kernel_rfl) (by decide) (AllReady.cons rfl (fun K hK=>?_) AllReady.nil)
          go_simp
          refine hK _ _ ?_
          clear hK K
          refine wpAny_done (by kernel_rfl) ?_ _
          go_wp2_with fail
          go_meet
          exact ⟨_,rfl,body_early (r:=⟨f0,n1,0,⟨0,0⟩,⟨0,0⟩⟩) (by (exact kp)) hr5 hu5 hB5 rlt⟩
        ·go_simp
         refine (HN1.out _ (by (exact kp))).mono ?_
         rintro e w5 ⟨rfl,hr5,hu5⟩
         have s5:=hu5.size
         have xl5:w1.heap.size < w5.heap.size:=by (try simp only [World.size_drew,World.size_alloc] at s5);omega
         replace e1:w5.cell? ⟨w1.heap.size,1,none⟩=some (.int .u8 (f0:Int)):=hu5.cellAt nrb (by simp [go_sem,e1,xlt])
         refine hK _ _ ?_
         clear hK K
         refine wpAny_take (i:=7) (v:=?_) rfl (by kernel_rfl) (by kernel_rfl) (by kernel_rfl) (fun _ _ _ h=>h) (Or.inl ⟨by rfl,?_⟩) ?_
         rotate_left
         ·intro w;go_simp;try with_reducible rfl
         refine wpAny_ready (rs:=[4,9]) (by kernel_rfl) (by decide) (AllReady.cons rfl (fun K hK=>?_) (AllReady.cons rfl (fun K hK=>?_) AllReady.nil))
         ·go_simp
          refine hK _ _ ?_
          clear hK K
          refine wpAny_take (i:=8) (v:=?_) rfl (by kernel_rfl) (by kernel_rfl) (by kernel_rfl) (fun _ _ _ h=>h) (Or.inl ⟨by rfl,?_⟩) ?_
          rotate_left
          ·intro w;go_simp;try with_reducible rfl
          refine wpAny_ready (rs:=[9]) (by kernel_rfl) (by decide) (AllReady.cons rfl (fun K hK=>?_) AllReady.nil)
          go_simp
          refine hK _ _ ?_
          clear hK K
          refine wpAny_ready (rs:=[10]) (by kernel_rfl) (by decide) (AllReady.cons rfl (fun K hK=>?_) AllReady.nil)
          go_simp
          refine hK _ _ ?_
          clear hK K
          refine wpAny_done (by kernel_rfl) ?_ _
          go_wp2_with fail
          go_meet
          exact ⟨_,rfl,body_late (r:=⟨f0,n1,0,⟨0,0⟩,⟨0,0⟩⟩) (by (exact kp)) hr5 hu5 rlt⟩
         ·go_simp
          refine hK _ _ ?_
          clear hK K
          refine wpAny_ready (rs:=[4]) (by kernel_rfl) (by decide) (AllReady.cons rfl (fun K hK=>?_) AllReady.nil)
          go_simp
          refine hK _ _ ?_
          clear hK K
          refine wpAny_take (i:=8) (v:=?_) rfl (by kernel_rfl) (by kernel_rfl) (by kernel_rfl) (fun _ _ _ h=>h) (Or.inl ⟨by rfl,?_⟩) ?_
          rotate_left
          ·intro w;go_simp;try with_reducible rfl
          refine wpAny_ready (rs:=[10]) (by kernel_rfl) (by decide) (AllReady.cons rfl (fun K hK=>?_) AllReady.nil)
          go_simp
          refine hK _ _ ?_
          clear hK K
          refine wpAny_done (by kernel_rfl) ?_ _
          go_wp2_with fail
          go_meet
          exact ⟨_,rfl,body_late (r:=⟨f0,n1,0,⟨0,0⟩,⟨0,0⟩⟩) (by (exact kp)) hr5 hu5 rlt⟩
        ·go_simp
         refine hK _ _ ?_
         clear hK K
         refine wpAny_ready (rs:=[4,6]) (by kernel_rfl) (by decide) (AllReady.cons rfl (fun K hK=>?_) (AllReady.cons rfl (fun K hK=>?_) AllReady.nil))
         ·go_simp
          refine hK _ _ ?_
          clear hK K
          refine wpAny_ready (rs:=[6]) (by kernel_rfl) (by decide) (AllReady.cons rfl (fun K hK=>?_) AllReady.nil)
          go_simp
          refine (HN1.out _ (by (exact kp))).mono ?_
          rintro e w5 ⟨rfl,hr5,hu5⟩
          have s5:=hu5.size
          have xl5:w1.heap.size < w5.heap.size:=by (try simp only [World.size_drew,World.size_alloc] at s5);omega
          have hB5:RecBox w5 wr.heap.size ⟨0,0,0,⟨0,0⟩,⟨0,0⟩⟩:=RecBox.upd (G:=fun k=>k=w.heap.size) ⟨heap_alloc_new (wr.drew) _⟩ hu5 nwr
          obtain ⟨b0,b1,b2,b3,b4,b5,b6,bf⟩:=hB5.cells
          refine hK _ _ ?_
          clear hK K
          refine wpAny_take (i:=7) (v:=?_) rfl (by kernel_rfl) (by kernel_rfl) (by kernel_rfl) (fun _ _ _ h=>h) (Or.inl ⟨by rfl,?_⟩) ?_
          rotate_left
          ·intro w;go_simp;try with_reducible rfl
          refine wpAny_take (i:=8) (v:=?_) rfl (by kernel_rfl) (by kernel_rfl) (by kernel_rfl) (fun _ _ _ h=>h) (Or.inl ⟨by rfl,?_⟩) ?_
          rotate_left
          ·intro w;go_simp;try with_reducible rfl
          refine wpAny_ready (rs:=[10]) (by kernel_rfl) (by decide) (AllReady.cons rfl (fun K hK=>?_) AllReady.nil)
          go_simp
          refine hK _ _ ?_
          clear hK K
          refine wpAny_done (by kernel_rfl) ?_ _
          go_wp2_with fail
          go_meet
          exact ⟨_,rfl,body_early (r:=⟨f0,n1,0,⟨0,0⟩,⟨0,0⟩⟩) (by (exact kp)) hr5 hu5 hB5 rlt⟩
         ·go_simp
          refine (HN1.out _ (by (exact kp))).mono ?_
          rintro e w5 ⟨rfl,hr5,hu5⟩
          have s5:=hu5.size
          have xl5:w1.heap.size < w5.heap.size:=by (try simp only [World.size_drew,World.size_alloc] at s5);omega
          have hB5:RecBox w5 wr.heap.size ⟨0,0,0,⟨0,0⟩,⟨0,0⟩⟩:=RecBox.upd (G:=fun k=>k=w.heap.size) ⟨heap_alloc_new (wr.drew) _⟩ hu5 nwr
          obtain ⟨b0,b1,b2,b3,b4,b5,b6,bf⟩:=hB5.cells
          replace e1:w5.cell? ⟨w1.heap.size,1,none⟩=some (.int .u8 (f0:Int)):=hu5.cellAt nrb (by simp [go_sem,e1,xlt])
          refine hK _ _ ?_
          clear hK K
          refine wpAny_take (i:=7) (v:=?_) rfl (by kernel_rfl) (by kernel_rfl) (by kernel_rfl) (fun _ _ _ h=>h) (Or.inl ⟨by rfl,?_⟩) ?_
          rotate_left
          ·intro w;go_simp;try with_reducible rfl
          refine wpAny_ready (rs:=[4]) (by kernel_rfl) (by decide) (AllReady.cons rfl (fun K hK=>?_) AllReady.nil)
          go_simp
          refine hK _ _ ?_
          clear hK K
          refine wpAny_take (i:=8) (v:=?_) rfl (by kernel_rfl) (by kernel_rfl) (by kernel_rfl) (fun _ _ _ h=>h) (Or.inl ⟨by rfl,?_⟩) ?_
          rotate_left
          ·intro w;go_simp;try with_reducible rfl
          refine wpAny_ready (rs:=[10]) (by kernel_rfl) (by decide) (AllReady.cons rfl (fun K hK=>?_) AllReady.nil)
          go_simp
          refine hK _ _ ?_
          clear hK K
          refine wpAny_done (by kernel_rfl) ?_ _
          go_wp2_with fail
          go_meet
          exact ⟨_,rfl,body_early (r:=⟨f0,n1,0,⟨0,0⟩,⟨0,0⟩⟩) (by (exact kp)) hr5 hu5 hB5 rlt⟩
     case rest=>
      obtain ⟨X,rfl,hB⟩:=hcut
      have hXr:=hB.far
      have xl:=hB.box.lt
      have nX:¬ (X=w1.heap.size):=by omega
      have nX':¬ (w1.heap.size=X):=by omega
      have nXr:¬ (X=w.heap.size):=by omega
      obtain ⟨b0,b1,b2,b3,b4,b5,b6,bf⟩:=hB.box.cells
      replace e1:=(HTW.out.read HRW.out hB.upd).cells.2.1
      have xlc:w1.heap.size < wc.heap.size:=lt_of_cell e1
      have HB6:=Lib.hid (hB.bot n1)
      clear hB e3 ef
      by_cases hch:(f0:Int)=3 ∨ (f0:Int)=4
      ·have HCH:=Lib.hid (fun (W:World)=>chained_calls (f0:Int) W)
       have hcb:chainedB (f0:Int)=true:=by unfold chainedB;simpa using hch
       rw [hcb] at HCH
       have hba:=HBT.out.1 hch
       have HN2:=Lib.hid (fun (W:World) (hR:RdRep W w.heap.size rdA)=>rdNum_calls hR 16 (by omega))
       rw [← hba] at HN2
       clear hch hcb hba
       go_wp2_with (first
        | (go_at_call 121;refine (HCH.out _).mono ?_;rintro e w7 ⟨rfl,rfl⟩)
        | (go_at_call 126;have q:=HB6;clear q;refine (HN2.out _ HB6.out.rdr).mono ?_;rintro e w7 ⟨rfl,hr7,hu7⟩;have hB7:=HB6.out.call hr7 hu7;obtain ⟨b0,b1,b2,b3,b4,b5,b6,bf⟩:=hB7.box.cells;have e1:=(HTW.out.read HRW.out hB7.upd).cells.2.1;have xl7:=hB7.box.lt;have HB7:=Lib.hid (hB7.bot nb);clear hB7 hr7 hu7 HB6)
        | fail)
       go_wp2_with (first
        | (go_at_call 128;have q:=HB7;clear q;refine (HC3.out _ HB7.out.rdr).mono ?_;rintro e w8 ⟨rfl,hr8,hu8⟩;have hB8:=HB7.out.call hr8 hu8;obtain ⟨b0,b1,b2,b3,b4,b5,b6,bf⟩:=hB8.box.cells;have e1:=(HTW.out.read HRW.out hB8.upd).cells.2.1;have xl8:=hB8.box.lt;have HB8:=Lib.hid (hB8.lo lo);clear hB8 hr8 hu8 HB7)
        | (go_at_call 128;have q:=HB8;clear q;refine (HC4.out _ HB8.out.rdr).mono ?_;rintro e w9 ⟨rfl,hr9,hu9⟩;have hB9:=HB8.out.call hr9 hu9;obtain ⟨b0,b1,b2,b3,b4,b5,b6,bf⟩:=hB9.box.cells;have xl9:=hB9.box.lt;have HB9:=Lib.hid (hB9.hi hh);clear hB9 hr9 hu9 HB8)
        | fail)
       obtain ⟨Wc,hWc⟩:∃ Wc,Wc=(w9.setCell ⟨X,5,none⟩ (.int .u8 hh.tag)).setCell ⟨X,6,none⟩ (.int .u32 hh.to):=⟨_,rfl⟩
       have HB9':=HB9
       rw [← hWc] at HB9' ⊢
       clear hWc HB9
       refine wp_region_any (by kernel_rfl) ?_
       obtain ⟨W9,hW9⟩:∃ W9,W9=Wc.drew:=⟨_,rfl⟩
       have hkd:Keeps Wc W9:=by rw [hW9];exact (Keeps.refl Wc).drew
       have HU9:=Lib.hid (HB9'.out.upd.trans' (hkd.upd _))
       have HR9:=Lib.hid (HB9'.out.rdr.keeps hkd)
       have hB:=HB9'.out.box.upd (hkd.upd (fun _=>False)) (fun h=>h)
       have hT9:=HTW.out.read HRW.out HU9.out
       show wpAny Tryz.prog .any _ _ _ _ _ Wc.drew
       rw [← hW9]
       clear hW9 hkd
       obtain ⟨b0,b1,b2,b3,b4,b5,b6,bf⟩:=hB.cells
       have xl9:=hB.lt
       obtain ⟨⟨pv,lv,k1,k2,k3⟩,k4⟩:=hT9
       have e4:W9.cell? ⟨w1.heap.size,4,none⟩=some lv:=by rw [cell_of_row W9 w1.heap.size 4 _ _ _ k1];rfl
       have tl9:w1.heap.size < W9.heap.size:=lt_of_heap k1
       refine wpAny_take (i:=0) (v:=?_) rfl (by kernel_rfl) (by kernel_rfl) (by kernel_rfl) (fun _ _ _ h=>h) (Or.inl ⟨by rfl,?_⟩) ?_
       rotate_left
       ·intro w;go_simp;try with_reducible rfl
       refine wpAny_take (i:=1) (v:=?_) rfl (by kernel_rfl) (by kernel_rfl) (by kernel_rfl) (fun _ _ _ h=>h) (Or.inl ⟨by rfl,?_⟩) ?_
       rotate_left
       ·intro w;go_simp;try with_reducible rfl
       refine wpAny_take (i:=2) (v:=?_) rfl (by kernel_rfl) (by kernel_rfl) (by kernel_rfl) (fun _ _ _ h=>h) (Or.inl ⟨by rfl,?_⟩) ?_
       rotate_left
       ·intro w;go_simp;try with_reducible rfl
       refine wpAny_take (i:=3) (v:=?_) rfl (by kernel_rfl) (by kernel_rfl) (by kernel_rfl) (fun _ _ _ h=>h) (Or.inl ⟨by rfl,?_⟩) ?_
       rotate_left
       ·intro w;go_simp;try with_reducible rfl
       refine wpAny_ready (rs:=[4,5]) (by kernel_rfl) (by decide) (AllReady.cons rfl (fun K hK=>?_) (AllReady.cons rfl (fun K hK=>?_) AllReady.nil))
       ·go_simp
        refine hK _ _ ?_
        clear hK K
        refine wpAny_ready (rs:=[5]) (by kernel_rfl) (by decide) (AllReady.cons rfl (fun K hK=>?_) AllReady.nil)
        go_simp
        refine hK _ _ ?_
        clear hK K
        refine wpAny_ready (rs:=[6]) (by kernel_rfl) (by decide) (AllReady.cons rfl (fun K hK=>?_) AllReady.nil)
        go_simp
        refine hK _ _ ?_
        clear hK K
        refine wpAny_ready (rs:=[7]) (by kernel_rfl) (by decide) (AllReady.cons rfl (fun K hK=>?_) AllReady.nil)
        obtain ⟨i0,hi0,hz0,hz1,hz2⟩:=info_parts info_recT
        refine wp_append_fresh (.tmp 116) (.tmp 118) 22 rfl w.heap.size 87 i0 (.agg #[.int .u8 0,.int .u8 0,.int .u8 0,.int .u8 0,.int .u32 0,.int .u8 0,.int .u32 0]) 7 20 Tryz.underlying22 hi0 hz0 hz1 hz2 rfl (by decide) lv pr.length (pr.flatMap recVals) rfl (((Keeps.refl W9).alloc (.cells #[.int .u8 f0,.int .u8 n1,.int .u8 nb,.int .u8 lo.tag,.int .u32 lo.to,.int .u8 hh.tag,.int .u32 hh.to] 87)).owns k3) ⟨W9.heap.size,0,none⟩ 1 1 (recVals ⟨f0,n1,nb,lo,hh⟩) rfl rfl (cell_new _ _ _ _ rfl) (by intro u hu;simp [recVals] at hu;rcases hu with rfl | rfl | rfl | rfl | rfl | rfl | rfl <;> rfl) (by have:=HPL.out;unfold maxLen;omega) (by have:=HPL.out;omega) (by rw [World.size_alloc];omega) ?_
        intro v6 w6 hr6 hg6 _
        have HPK:=Lib.hid (recs_grown (x:=⟨f0,n1,nb,lo,hh⟩) k1 k2 k3 k4 HR9.out hr6 hg6)
        obtain ⟨va,vcap,rfl,-⟩:=owns_slice hr6
        have q4:w6.cell? ⟨w1.heap.size,4,none⟩=some lv:=HPK.out.1
        have qf:=HPK.out.2.1
        have HK6:=Lib.hid ((HKW.out.new HU9.out (fun k hk=>by omega)).new HPK.out.2.2.2.2 (fun k hk=>hk))
        clear hr6 hg6 k1 k2 k3 k4 e4
        refine hK _ _ ?_
        clear hK K
        refine wpAny_take (i:=8) (v:=?_) rfl (by kernel_rfl) (by kernel_rfl) (by kernel_rfl) (fun _ _ _ h=>h) (Or.inl ⟨by rfl,?_⟩) ?_
        rotate_left
        ·intro w;go_simp;try with_reducible rfl
        refine wpAny_take (i:=9) (v:=?_) rfl (by kernel_rfl) (by kernel_rfl) (by kernel_rfl) (fun _ _ _ h=>h) (Or.inl ⟨by rfl,?_⟩) ?_
        rotate_left
        ·intro w;go_simp;try with_reducible rfl
        refine wpAny_ready (rs:=[10]) (by kernel_rfl) (by decide) (AllReady.cons rfl (fun K hK=>?_) AllReady.nil)
        go_simp
        refine hK _ _ ?_
        clear hK K
        refine wpAny_done (by kernel_rfl) ?_ _
        go_wp2_with fail
        go_roundg (gk - 1)
        case rel=>exact ⟨i + 1,pr ++ [⟨f0,n1,nb,lo,hh⟩],rdE,by simp,by omega,HNX.out,HPK.out.2.2.1,HPK.out.2.2.2.1,HK6.out⟩
        case measure=>omega
       ·go_simp
        refine hK _ _ ?_
        clear hK K
        refine wpAny_ready (rs:=[4,6]) (by kernel_rfl) (by decide) (AllReady.cons rfl (fun K hK=>?_) (AllReady.cons rfl (fun K hK=>?_) AllReady.nil))
        ·go_simp
         refine hK _ _ ?_
         clear hK K
         refine wpAny_ready (rs:=[6]) (by kernel_rfl) (by decide) (AllReady.cons rfl (fun K hK=>?_) AllReady.nil)
         go_simp
         refine hK _ _ ?_
         clear hK K
         refine wpAny_ready (rs:=[7]) (by kernel_rfl) (by decide) (AllReady.cons rfl (fun K hK=>?_) AllReady.nil)
         obtain ⟨i0,hi0,hz0,hz1,hz2⟩:=info_parts info_recT
         refine wp_append_fresh (.tmp 116) (.tmp 118) 22 rfl w.heap.size 87 i0 (.agg #[.int .u8 0,.int .u8 0,.int .u8 0,.int .u8 0,.int .u32 0,.int .u8 0,.int .u32 0]) 7 20 Tryz.underlying22 hi0 hz0 hz1 hz2 rfl (by decide) lv pr.length (pr.flatMap recVals) rfl (((Keeps.refl W9).alloc (.cells #[.int .u8 f0,.int .u8 n1,.int .u8 nb,.int .u8 lo.tag,.int .u32 lo.to,.int .u8 hh.tag,.int .u32 hh.to] 87)).owns k3) ⟨W9.heap.size,0,none⟩ 1 1 (recVals ⟨f0,n1,nb,lo,hh⟩) rfl rfl (cell_new _ _ _ _ rfl) (by intro u hu;simp [recVals] at hu;rcases hu with rfl | rfl | rfl | rfl | rfl | rfl | rfl <;> rfl) (by have:=HPL.out;unfold maxLen;omega) (by have:=HPL.out;omega) (by rw [World.size_alloc];omega) ?_
         intro v6 w6 hr6 hg6 _
         have HPK:=Lib.hid (recs_grown (x:=⟨f0,n1,nb,lo,hh⟩) k1 k2 k3 k4 HR9.out hr6 hg6)
         obtain ⟨va,vcap,rfl,-⟩:=owns_slice hr6
         have q4:w6.cell? ⟨w1.heap.size,4,none⟩=some lv:=HPK.out.1
         have qf:=HPK.out.2.1
         have HK6:=Lib.hid ((HKW.out.new HU9.out (fun k hk=>by omega)).new HPK.out.2.2.2.2 (fun k hk=>hk))
         clear hr6 hg6 k1 k2 k3 k4 e4
         refine hK _ _ ?_
         clear hK K
         refine wpAny_take (i:=8) (v:=?_) rfl (by kernel_rfl) (by kernel_rfl) (by kernel_rfl) (fun _ _ _ h=>h) (Or.inl ⟨by rfl,?_⟩) ?_
         rotate_left
         ·intro w;go_simp;try with_reducible rfl
         refine wpAny_take (i:=9) (v:=?_) rfl (by kernel_rfl) (by kernel_rfl) (by kernel_rfl) (fun _ _ _ h=>h) (Or.inl ⟨by rfl,?_⟩) ?_
         rotate_left
         ·intro w;go_simp;try with_reducible rfl
         refine wpAny_ready (rs:=[10]) (by kernel_rfl) (by decide) (AllReady.cons rfl (fun K hK=>?_) AllReady.nil)
         go_simp
         refine hK _ _ ?_
         clear hK K
         refine wpAny_done (by kernel_rfl) ?_ _
         go_wp2_with fail
         go_roundg (gk - 1)
         case rel=>exact ⟨i + 1,pr ++ [⟨f0,n1,nb,lo,hh⟩],rdE,by simp,by omega,HNX.out,HPK.out.2.2.1,HPK.out.2.2.2.1,HK6.out⟩
         case measure=>omega
        ·go_simp
         refine hK _ _ ?_
         clear hK K
         refine wpAny_ready (rs:=[4]) (by kernel_rfl) (by decide) (AllReady.cons rfl (fun K hK=>?_) AllReady.nil)
         go_simp
         refine hK _ _ ?_
         clear hK K
         refine wpAny_ready (rs:=[7]) (by kernel_rfl) (by decide) (AllReady.cons rfl (fun K hK=>?_) AllReady.nil)
         obtain ⟨i0,hi0,hz0,hz1,hz2⟩:=info_parts info_recT
         refine wp_append_fresh (.tmp 116) (.tmp 118) 22 rfl w.heap.size 87 i0 (.agg #[.int .u8 0,.int .u8 0,.int .u8 0,.int .u8 0,.int .u32 0,.int .u8 0,.int .u32 0]) 7 20 Tryz.underlying22 hi0 hz0 hz1 hz2 rfl (by decide) lv pr.length (pr.flatMap recVals) rfl (((Keeps.refl W9).alloc (.cells #[.int .u8 f0,.int .u8 n1,.int .u8 nb,.int .u8 lo.tag,.int .u32 lo.to,.int .u8 hh.tag,.int .u32 hh.to] 87)).owns k3) ⟨W9.heap.size,0,none⟩ 1 1 (recVals ⟨f0,n1,nb,lo,hh⟩) rfl rfl (cell_new _ _ _ _ rfl) (by intro u hu;simp [recVals] at hu;rcases hu with rfl | rfl | rfl | rfl | rfl | rfl | rfl <;> rfl) (by have:=HPL.out;unfold maxLen;omega) (by have:=HPL.out;omega) (by rw [World.size_alloc];omega) ?_
         intro v6 w6 hr6 hg6 _
         have HPK:=Lib.hid (recs_grown (x:=⟨f0,n1,nb,lo,hh⟩) k1 k2 k3 k4 HR9.out hr6 hg6)
         obtain ⟨va,vcap,rfl,-⟩:=owns_slice hr6
         have q4:w6.cell? ⟨w1.heap.size,4,none⟩=some lv:=HPK.out.1
         have qf:=HPK.out.2.1
         have HK6:=Lib.hid ((HKW.out.new HU9.out (fun k hk=>by omega)).new HPK.out.2.2.2.2 (fun k hk=>hk))
         clear hr6 hg6 k1 k2 k3 k4 e4
         refine hK _ _ ?_
         clear hK K
         refine wpAny_take (i:=8) (v:=?_) rfl (by kernel_rfl) (by kernel_rfl) (by kernel_rfl) (fun _ _ _ h=>h) (Or.inl ⟨by rfl,?_⟩) ?_
         rotate_left
         ·intro w;go_simp;try with_reducible rfl
         refine wpAny_take (i:=9) (v:=?_) rfl (by kernel_rfl) (by kernel_rfl) (by kernel_rfl) (fun _ _ _ h=>h) (Or.inl ⟨by rfl,?_⟩) ?_
         rotate_left
         ·intro w;go_simp;try with_reducible rfl
         refine wpAny_ready (rs:=[10]) (by kernel_rfl) (by decide) (AllReady.cons rfl (fun K hK=>?_) AllReady.nil)
         go_simp
         refine hK _ _ ?_
         clear hK K
         refine wpAny_done (by kernel_rfl) ?_ _
         go_wp2_with fail
         go_roundg (gk - 1)
         case rel=>exact ⟨i + 1,pr ++ [⟨f0,n1,nb,lo,hh⟩],rdE,by simp,by omega,HNX.out,HPK.out.2.2.1,HPK.out.2.2.2.1,HK6.out⟩
         case measure=>omega
      ·have HCH:=Lib.hid (fun (W:World)=>chained_calls (f0:Int) W)
       have hcb:chainedB (f0:Int)=false:=by unfold chainedB;simpa using hch
       rw [hcb] at HCH
       have hba:=HBT.out.2 hch
       obtain ⟨rfl,rfl⟩:=Prod.mk.inj hba
       have HB7:=HB6
       clear hch hcb hba HB6
       go_wp2_with (first
        | (go_at_call 121;refine (HCH.out _).mono ?_;rintro e w7 ⟨rfl,rfl⟩)
        | fail)
       go_wp2_with (first
        | (go_at_call 128;have q:=HB7;clear q;refine (HC3.out _ HB7.out.rdr).mono ?_;rintro e w8 ⟨rfl,hr8,hu8⟩;have hB8:=HB7.out.call hr8 hu8;obtain ⟨b0,b1,b2,b3,b4,b5,b6,bf⟩:=hB8.box.cells;have e1:=(HTW.out.read HRW.out hB8.upd).cells.2.1;have xl8:=hB8.box.lt;have HB8:=Lib.hid (hB8.lo lo);clear hB8 hr8 hu8 HB7)
        | (go_at_call 128;have q:=HB8;clear q;refine (HC4.out _ HB8.out.rdr).mono ?_;rintro e w9 ⟨rfl,hr9,hu9⟩;have hB9:=HB8.out.call hr9 hu9;obtain ⟨b0,b1,b2,b3,b4,b5,b6,bf⟩:=hB9.box.cells;have xl9:=hB9.box.lt;have HB9:=Lib.hid (hB9.hi hh);clear hB9 hr9 hu9 HB8)
        | fail)
       obtain ⟨Wc,hWc⟩:∃ Wc,Wc=(w9.setCell ⟨X,5,none⟩ (.int .u8 hh.tag)).setCell ⟨X,6,none⟩ (.int .u32 hh.to):=⟨_,rfl⟩
       have HB9':=HB9
       rw [← hWc] at HB9' ⊢
       clear hWc HB9
       refine wp_region_any (by kernel_rfl) ?_
       obtain ⟨W9,hW9⟩:∃ W9,W9=Wc.drew:=⟨_,rfl⟩
       have hkd:Keeps Wc W9:=by rw [hW9];exact (Keeps.refl Wc).drew
       have HU9:=Lib.hid (HB9'.out.upd.trans' (hkd.upd _))
       have HR9:=Lib.hid (HB9'.out.rdr.keeps hkd)
       have hB:=HB9'.out.box.upd (hkd.upd (fun _=>False)) (fun h=>h)
       have hT9:=HTW.out.read HRW.out HU9.out
       show wpAny Tryz.prog .any _ _ _ _ _ Wc.drew
       rw [← hW9]
       clear hW9 hkd
       obtain ⟨b0,b1,b2,b3,b4,b5,b6,bf⟩:=hB.cells
       have xl9:=hB.lt
       obtain ⟨⟨pv,lv,k1,k2,k3⟩,k4⟩:=hT9
       have e4:W9.cell? ⟨w1.heap.size,4,none⟩=some lv:=by rw [cell_of_row W9 w1.heap.size 4 _ _ _ k1];rfl
       have tl9:w1.heap.size < W9.heap.size:=lt_of_heap k1
       refine wpAny_take (i:=0) (v:=?_) rfl (by kernel_rfl) (by kernel_rfl) (by kernel_rfl) (fun _ _ _ h=>h) (Or.inl ⟨by rfl,?_⟩) ?_
       rotate_left
       ·intro w;go_simp;try with_reducible rfl
       refine wpAny_take (i:=1) (v:=?_) rfl (by kernel_rfl) (by kernel_rfl) (by kernel_rfl) (fun _ _ _ h=>h) (Or.inl ⟨by rfl,?_⟩) ?_
       rotate_left
       ·intro w;go_simp;try with_reducible rfl
       refine wpAny_take (i:=2) (v:=?_) rfl (by kernel_rfl) (by kernel_rfl) (by kernel_rfl) (fun _ _ _ h=>h) (Or.inl ⟨by rfl,?_⟩) ?_
       rotate_left
       ·intro w;go_simp;try with_reducible rfl
       refine wpAny_take (i:=3) (v:=?_) rfl (by kernel_rfl) (by kernel_rfl) (by kernel_rfl) (fun _ _ _ h=>h) (Or.inl ⟨by rfl,?_⟩) ?_
       rotate_left
       ·intro w;go_simp;try with_reducible rfl
       refine wpAny_ready (rs:=[4,5]) (by kernel_rfl) (by decide) (AllReady.cons rfl (fun K hK=>?_) (AllReady.cons rfl (fun K hK=>?_) AllReady.nil))
       ·go_simp
        refine hK _ _ ?_
        clear hK K
        refine wpAny_ready (rs:=[5]) (by kernel_rfl) (by decide) (AllReady.cons rfl (fun K hK=>?_) AllReady.nil)
        go_simp
        refine hK _ _ ?_
        clear hK K
        refine wpAny_ready (rs:=[6]) (by kernel_rfl) (by decide) (AllReady.cons rfl (fun K hK=>?_) AllReady.nil)
        go_simp
        refine hK _ _ ?_
        clear hK K
        refine wpAny_ready (rs:=[7]) (by kernel_rfl) (by decide) (AllReady.cons rfl (fun K hK=>?_) AllReady.nil)
        obtain ⟨i0,hi0,hz0,hz1,hz2⟩:=info_parts info_recT
        refine wp_append_fresh (.tmp 116) (.tmp 118) 22 rfl w.heap.size 87 i0 (.agg #[.int .u8 0,.int .u8 0,.int .u8 0,.int .u8 0,.int .u32 0,.int .u8 0,.int .u32 0]) 7 20 Tryz.underlying22 hi0 hz0 hz1 hz2 rfl (by decide) lv pr.length (pr.flatMap recVals) rfl (((Keeps.refl W9).alloc (.cells #[.int .u8 f0,.int .u8 nb,.int .u8 nb,.int .u8 lo.tag,.int .u32 lo.to,.int .u8 hh.tag,.int .u32 hh.to] 87)).owns k3) ⟨W9.heap.size,0,none⟩ 1 1 (recVals ⟨f0,nb,nb,lo,hh⟩) rfl rfl (cell_new _ _ _ _ rfl) (by intro u hu;simp [recVals] at hu;rcases hu with rfl | rfl | rfl | rfl | rfl | rfl | rfl <;> rfl) (by have:=HPL.out;unfold maxLen;omega) (by have:=HPL.out;omega) (by rw [World.size_alloc];omega) ?_
        intro v6 w6 hr6 hg6 _
        have HPK:=Lib.hid (recs_grown (x:=⟨f0,nb,nb,lo,hh⟩) k1 k2 k3 k4 HR9.out hr6 hg6)
        obtain ⟨va,vcap,rfl,-⟩:=owns_slice hr6
        have q4:w6.cell? ⟨w1.heap.size,4,none⟩=some lv:=HPK.out.1
        have qf:=HPK.out.2.1
        have HK6:=Lib.hid ((HKW.out.new HU9.out (fun k hk=>by omega)).new HPK.out.2.2.2.2 (fun k hk=>hk))
        clear hr6 hg6 k1 k2 k3 k4 e4
        refine hK _ _ ?_
        clear hK K
        refine wpAny_take (i:=8) (v:=?_) rfl (by kernel_rfl) (by kernel_rfl) (by kernel_rfl) (fun _ _ _ h=>h) (Or.inl ⟨by rfl,?_⟩) ?_
        rotate_left
        ·intro w;go_simp;try with_reducible rfl
        refine wpAny_take (i:=9) (v:=?_) rfl (by kernel_rfl) (by kernel_rfl) (by kernel_rfl) (fun _ _ _ h=>h) (Or.inl ⟨by rfl,?_⟩) ?_
        rotate_left
        ·intro w;go_simp;try with_reducible rfl
        refine wpAny_ready (rs:=[10]) (by kernel_rfl) (by decide) (AllReady.cons rfl (fun K hK=>?_) AllReady.nil)
        go_simp
        refine hK _ _ ?_
        clear hK K
        refine wpAny_done (by kernel_rfl) ?_ _
        go_wp2_with fail
        go_roundg (gk - 1)
        case rel=>exact ⟨i + 1,pr ++ [⟨f0,nb,nb,lo,hh⟩],rdE,by simp,by omega,HNX.out,HPK.out.2.2.1,HPK.out.2.2.2.1,HK6.out⟩
        case measure=>omega
       ·go_simp
        refine hK _ _ ?_
        clear hK K
        refine wpAny_ready (rs:=[4,6]) (by kernel_rfl) (by decide) (AllReady.cons rfl (fun K hK=>?_) (AllReady.cons rfl (fun K hK=>?_) AllReady.nil))
        ·go_simp
         refine hK _ _ ?_
         clear hK K
         refine wpAny_ready (rs:=[6]) (by kernel_rfl) (by decide) (AllReady.cons rfl (fun K hK=>?_) AllReady.nil)
         go_simp
         refine hK _ _ ?_
         clear hK K
         refine wpAny_ready (rs:=[7]) (by kernel_rfl) (by decide) (AllReady.cons rfl (fun K hK=>?_) AllReady.nil)
         obtain ⟨i0,hi0,hz0,hz1,hz2⟩:=info_parts info_recT
         refine wp_append_fresh (.tmp 116) (.tmp 118) 22 rfl w.heap.size 87 i0 (.agg #[.int .u8 0,.int .u8 0,.int .u8 0,.int .u8 0,.int .u32 0,.int .u8 0,.int .u32 0]) 7 20 Tryz.underlying22 hi0 hz0 hz1 hz2 rfl (by decide) lv pr.length (pr.flatMap recVals) rfl (((Keeps.refl W9).alloc (.cells #[.int .u8 f0,.int .u8 nb,.int .u8 nb,.int .u8 lo.tag,.int .u32 lo.to,.int .u8 hh.tag,.int .u32 hh.to] 87)).owns k3) ⟨W9.heap.size,0,none⟩ 1 1 (recVals ⟨f0,nb,nb,lo,hh⟩) rfl rfl (cell_new _ _ _ _ rfl) (by intro u hu;simp [recVals] at hu;rcases hu with rfl | rfl | rfl | rfl | rfl | rfl | rfl <;> rfl) (by have:=HPL.out;unfold maxLen;omega) (by have:=HPL.out;omega) (by rw [World.size_alloc];omega) ?_
         intro v6 w6 hr6 hg6 _
         have HPK:=Lib.hid (recs_grown (x:=⟨f0,nb,nb,lo,hh⟩) k1 k2 k3 k4 HR9.out hr6 hg6)
         obtain ⟨va,vcap,rfl,-⟩:=owns_slice hr6
         have q4:w6.cell? ⟨w1.heap.size,4,none⟩=some lv:=HPK.out.1
         have qf:=HPK.out.2.1
         have HK6:=Lib.hid ((HKW.out.new HU9.out (fun k hk=>by omega)).new HPK.out.2.2.2.2 (fun k hk=>hk))
         clear hr6 hg6 k1 k2 k3 k4 e4
         refine hK _ _ ?_
         clear hK K
         refine wpAny_take (i:=8) (v:=?_) rfl (by kernel_rfl) (by kernel_rfl) (by kernel_rfl) (fun _ _ _ h=>h) (Or.inl ⟨by rfl,?_⟩) ?_
         rotate_left
         ·intro w;go_simp;try with_reducible rfl
         refine wpAny_take (i:=9) (v:=?_) rfl (by kernel_rfl) (by kernel_rfl) (by kernel_rfl) (fun _ _ _ h=>h) (Or.inl ⟨by rfl,?_⟩) ?_
         rotate_left
         ·intro w;go_simp;try with_reducible rfl
         refine wpAny_ready (rs:=[10]) (by kernel_rfl) (by decide) (AllReady.cons rfl (fun K hK=>?_) AllReady.nil)
         go_simp
         refine hK _ _ ?_
         clear hK K
         refine wpAny_done (by kernel_rfl) ?_ _
         go_wp2_with fail
         go_roundg (gk - 1)
         case rel=>exact ⟨i + 1,pr ++ [⟨f0,nb,nb,lo,hh⟩],rdE,by simp,by omega,HNX.out,HPK.out.2.2.1,HPK.out.2.2.2.1,HK6.out⟩
         case measure=>omega
        ·go_simp
         refine hK _ _ ?_
         clear hK K
         refine wpAny_ready (rs:=[4]) (by kernel_rfl) (by decide) (AllReady.cons rfl (fun K hK=>?_) AllReady.nil)
         go_simp
         refine hK _ _ ?_
         clear hK K
         refine wpAny_ready (rs:=[7]) (by kernel_rfl) (by decide) (AllReady.cons rfl (fun K hK=>?_) AllReady.nil)
         obtain ⟨i0,hi0,hz0,hz1,hz2⟩:=info_parts info_recT
         refine wp_append_fresh (.tmp 116) (.tmp 118) 22 rfl w.heap.size 87 i0 (.agg #[.int .u8 0,.int .u8 0,.int .u8 0,.int .u8 0,.int .u32 0,.int .u8 0,.int .u32 0]) 7 20 Tryz.underlying22 hi0 hz0 hz1 hz2 rfl (by decide) lv pr.length (pr.flatMap recVals) rfl (((Keeps.refl W9).alloc (.cells #[.int .u8 f0,.int .u8 nb,.int .u8 nb,.int .u8 lo.tag,.int .u32 lo.to,.int .u8 hh.tag,.int .u32 hh.to] 87)).owns k3) ⟨W9.heap.size,0,none⟩ 1 1 (recVals ⟨f0,nb,nb,lo,hh⟩) rfl rfl (cell_new _ _ _ _ rfl) (by intro u hu;simp [recVals] at hu;rcases hu with rfl | rfl | rfl | rfl | rfl | rfl | rfl <;> rfl) (by have:=HPL.out;unfold maxLen;omega) (by have:=HPL.out;omega) (by rw [World.size_alloc];omega) ?_
         intro v6 w6 hr6 hg6 _
         have HPK:=Lib.hid (recs_grown (x:=⟨f0,nb,nb,lo,hh⟩) k1 k2 k3 k4 HR9.out hr6 hg6)
         obtain ⟨va,vcap,rfl,-⟩:=owns_slice hr6
         have q4:w6.cell? ⟨w1.heap.size,4,none⟩=some lv:=HPK.out.1
         have qf:=HPK.out.2.1
         have HK6:=Lib.hid ((HKW.out.new HU9.out (fun k hk=>by omega)).new HPK.out.2.2.2.2 (fun k hk=>hk))
         clear hr6 hg6 k1 k2 k3 k4 e4
         refine hK _ _ ?_
         clear hK K
         refine wpAny_take (i:=8) (v:=?_) rfl (by kernel_rfl) (by kernel_rfl) (by kernel_rfl) (fun _ _ _ h=>h) (Or.inl ⟨by rfl,?_⟩) ?_
         rotate_left
         ·intro w;go_simp;try with_reducible rfl
         refine wpAny_take (i:=9) (v:=?_) rfl (by kernel_rfl) (by kernel_rfl) (by kernel_rfl) (fun _ _ _ h=>h) (Or.inl ⟨by rfl,?_⟩) ?_
         rotate_left
         ·intro w;go_simp;try with_reducible rfl
         refine wpAny_ready (rs:=[10]) (by kernel_rfl) (by decide) (AllReady.cons rfl (fun K hK=>?_) AllReady.nil)
         go_simp
         refine hK _ _ ?_
         clear hK K
         refine wpAny_done (by kernel_rfl) ?_ _
         go_wp2_with fail
         go_roundg (gk - 1)
         case rel=>exact ⟨i + 1,pr ++ [⟨f0,nb,nb,lo,hh⟩],rdE,by simp,by omega,HNX.out,HPK.out.2.2.1,HPK.out.2.2.2.1,HK6.out⟩
         case measure=>omega
    ·have hex:i=k0 ∨ rdi=none:=by
      by_cases hh:rdi=none
      ·exact .inr hh
      ·exact .inl (by have:=hA.le;have:¬ i < k0:=fun h=>hgo ⟨h,hh⟩;omega)
     have HEX:=Lib.hid hex
     have HGO:=Lib.hid hgo
     have HCE:=Lib.hid (fun (W:World) (hW:Keeps wr W)=>readEdge_calls (hR.keeps hW) (f0:Int) k0 (by omega))
     obtain ⟨⟨e9,rd9⟩,he9⟩:∃ p,p=edgeR (f0:Int) k0 rdi:=⟨_,rfl⟩
     rw [← he9] at HCE
     have HE9:=Lib.hid he9
     clear hA hR hT hKW hex hgo he9
     by_cases hik:i < k0
     ·have hn:rdi=none:=by
       by_cases hh:rdi=none
       ·exact hh
       ·exact absurd ⟨hik,hh⟩ HGO.out
      have i1:(i:Int) < (k0:Int):=by omega
      have HNN:=Lib.hid hn
      clear hn
      go_wp2_with (first | (go_at_call 127;refine HE.out.mono ?_;rintro e w3 ⟨x,rfl,hx,rfl⟩;have hx0:(x == 0)=false:=(by have h9:x ≠ 0:=fun h=>(hx.1 h) HNN.out;simp [h9]);clear hx) | fail)
      refine wp_region_any (by kernel_rfl) ?_
      refine wpAny_take (i:=0) (v:=?_) rfl (by kernel_rfl) (by kernel_rfl) (by kernel_rfl) (fun _ _ _ h=>h) (Or.inl ⟨by rfl,?_⟩) ?_
      rotate_left
      ·intro w;go_simp;try with_reducible rfl
      refine wpAny_take (i:=1) (v:=?_) rfl (by kernel_rfl) (by kernel_rfl) (by kernel_rfl) (fun _ _ _ h=>h) (Or.inl ⟨by rfl,?_⟩) ?_
      rotate_left
      ·intro w;go_simp;try with_reducible rfl
      refine wpAny_take (i:=2) (v:=?_) rfl (by kernel_rfl) (by kernel_rfl) (by kernel_rfl) (fun _ _ _ h=>h) (Or.inl ⟨by rfl,?_⟩) ?_
      rotate_left
      ·intro w;go_simp;try with_reducible rfl
      refine wpAny_take (i:=3) (v:=?_) rfl (by kernel_rfl) (by kernel_rfl) (by kernel_rfl) (fun _ _ _ h=>h) (Or.inl ⟨by rfl,?_⟩) ?_
      rotate_left
      ·intro w;go_simp;try with_reducible rfl
      refine wpAny_take (i:=4) (v:=?_) rfl (by kernel_rfl) (by kernel_rfl) (by kernel_rfl) (fun _ _ _ h=>h) (Or.inl ⟨by rfl,?_⟩) ?_
      rotate_left
      ·intro w;go_simp;try with_reducible rfl
      refine wpAny_take (i:=5) (v:=?_) rfl (by kernel_rfl) (by kernel_rfl) (by kernel_rfl) (fun _ _ _ h=>h) (Or.inl ⟨by rfl,?_⟩) ?_
      rotate_left
      ·intro w;go_simp;try with_reducible rfl
      refine wpAny_take (i:=7) (v:=?_) rfl (by kernel_rfl) (by kernel_rfl) (by kernel_rfl) (fun _ _ _ h=>h) (Or.inl ⟨by rfl,?_⟩) ?_
      rotate_left
      ·intro w;go_simp;try with_reducible rfl
      refine wpAny_take (i:=8) (v:=?_) rfl (by kernel_rfl) (by kernel_rfl) (by kernel_rfl) (fun _ _ _ h=>h) (Or.inl ⟨by rfl,?_⟩) ?_
      rotate_left
      ·intro w;go_simp;try with_reducible rfl
      refine wpAny_take (i:=9) (v:=?_) rfl (by kernel_rfl) (by kernel_rfl) (by kernel_rfl) (fun _ _ _ h=>h) (Or.inl ⟨by rfl,?_⟩) ?_
      rotate_left
      ·intro w;go_simp;try with_reducible rfl
      refine wpAny_take (i:=10) (v:=?_) rfl (by kernel_rfl) (by kernel_rfl) (by kernel_rfl) (fun _ _ _ h=>h) (Or.inl ⟨by rfl,?_⟩) ?_
      rotate_left
      ·intro w;go_simp;try with_reducible rfl
      refine wpAny_ready (rs:=[6,11]) (by kernel_rfl) (by decide) (AllReady.cons rfl (fun K hK=>?_) (AllReady.cons rfl (fun K hK=>?_) AllReady.nil))
      ·go_simp
       refine hK _ _ ?_
       clear hK K
       refine wpAny_ready (rs:=[11]) (by kernel_rfl) (by decide) (AllReady.cons rfl (fun K hK=>?_) AllReady.nil)
       go_simp
       refine hK _ _ ?_
       clear hK K
       refine wpAny_ready (rs:=[12]) (by kernel_rfl) (by decide) (AllReady.cons rfl (fun K hK=>?_) AllReady.nil)
       go_simp
       refine (HCE.out _ (by (exact kp))).mono ?_
       rintro e w5 ⟨rfl,hr5,hu5⟩
       have hU5:=((Keeps.refl wr).drew.upd (fun k=>k=w.heap.size)).trans' hu5
       have hT5:=HTW.out.read HRW.out hU5
       have g5:=hT5.cells.2.2.2.1
       have g6:=hT5.cells.2.2.2.2.1
       have gf:=hT5.cells.2.2.2.2.2
       have HT5e:=Lib.hid (txt_edge hT5 e9)
       have HR5e:=Lib.hid (hr5.upd (updX2 w5 w1.heap.size 5 6 (.int .u8 e9.tag) (.int .u32 e9.to)) (fun k hk e=>by omega))
       have HK5e:=Lib.hid ((HKW.out.new hU5 (fun k hk=>by omega)).new (updX2 w5 w1.heap.size 5 6 (.int .u8 e9.tag) (.int .u32 e9.to)) (fun k hk=>by omega))
       have xl5:w1.heap.size < w5.heap.size:=by obtain ⟨⟨_,_,h1,_⟩,_⟩:=hT5;exact lt_of_heap h1
       refine hK _ _ ?_
       clear hK K hT5 hr5 hu5 hU5
       refine wpAny_take (i:=13) (v:=?_) rfl (by kernel_rfl) (by kernel_rfl) (by kernel_rfl) (fun _ _ _ h=>h) (Or.inl ⟨by rfl,?_⟩) ?_
       rotate_left
       ·intro w;go_simp;try with_reducible rfl
       refine wpAny_take (i:=14) (v:=?_) rfl (by kernel_rfl) (by kernel_rfl) (by kernel_rfl) (fun _ _ _ h=>h) (Or.inl ⟨by rfl,?_⟩) ?_
       rotate_left
       ·intro w;go_simp;try with_reducible rfl
       refine wpAny_ready (rs:=[15]) (by kernel_rfl) (by decide) (AllReady.cons rfl (fun K hK=>?_) AllReady.nil)
       go_simp
       refine hK _ _ ?_
       clear hK K
       refine wpAny_done (by kernel_rfl) ?_ _
       have HEN:=Lib.hid (rdEnd_calls HR5e.out)
       have HIF:=Lib.hid (fun (W:World)=>isForm_calls (f0:Int) W)
       have x1:=HT5e.out.cells.2.1
       obtain ⟨hRE,hRL⟩:=read_end hn0'.out hf0'.out (HPM.out.trans HPRE.out) HRD.out (by have q:=HK0.out;rw [HK.out] at q;exact q) HA.out HEX.out HE9.out
       have HRE:=Lib.hid hRE
       have HRL:=Lib.hid hRL
       clear hRE hRL g5 g6 gf e1 e3 ef
       by_cases hend:rd9=some []
       ·have HND:=Lib.hid hend
        clear hend
        cases hb:isFormB (f0:Int) with
        | true=>
         rw [hb] at HIF
         have HBB:=Lib.hid hb
         clear hb
         go_wp2_with (first | (go_at_call 129;refine HEN.out.mono ?_;rintro e w6 ⟨x,rfl,hx,rfl⟩;have hx0:x=0:=hx.2 HND.out;subst hx0;clear hx) | (go_at_call 61;refine (HIF.out _).mono ?_;rintro e w7 ⟨rfl,rfl⟩) | fail)
         go_ret2
         obtain ⟨q1,q2⟩:=read_fin (P:=fun T=>TxtRep w.heap.size _ w1.heap.size T.vars T.form T.perm T.l.length T.l T.e) HRE.out rfl true (by simp [HND.out,HBB.out]) (fun h=>by have q:=HT5e.out;rw [← HRL.out h] at q;exact q)
         exact ⟨_,_,rfl,q1,q2,HK5e.out⟩
        | false=>
         rw [hb] at HIF
         have HBB:=Lib.hid hb
         clear hb
         go_wp2_with (first | (go_at_call 129;refine HEN.out.mono ?_;rintro e w6 ⟨x,rfl,hx,rfl⟩;have hx0:x=0:=hx.2 HND.out;subst hx0;clear hx) | (go_at_call 61;refine (HIF.out _).mono ?_;rintro e w7 ⟨rfl,rfl⟩) | fail)
         go_ret2
         obtain ⟨q1,q2⟩:=read_fin (P:=fun T=>TxtRep w.heap.size _ w1.heap.size T.vars T.form T.perm T.l.length T.l T.e) HRE.out rfl false (by simp [HBB.out]) (fun h=>by have q:=HT5e.out;rw [← HRL.out h] at q;exact q)
         exact ⟨_,_,rfl,q1,q2,HK5e.out⟩
       ·have HND:=Lib.hid hend
        clear hend
        go_wp2_with (first | (go_at_call 129;refine HEN.out.mono ?_;rintro e w6 ⟨x,rfl,hx,rfl⟩;have hx0:(x == 0)=false:=(by have h9:x ≠ 0:=fun h=>HND.out (hx.1 h);simp [h9]);clear hx) | fail)
        go_ret2
        obtain ⟨q1,q2⟩:=read_fin (P:=fun T=>TxtRep w.heap.size _ w1.heap.size T.vars T.form T.perm T.l.length T.l T.e) HRE.out rfl false (by simp [HND.out]) (fun h=>absurd h HND.out)
        exact ⟨_,_,rfl,q1,q2,HK5e.out⟩
      ·go_simp
       refine hK _ _ ?_
       clear hK K
       refine wpAny_ready (rs:=[6]) (by kernel_rfl) (by decide) (AllReady.cons rfl (fun K hK=>?_) AllReady.nil)
       go_simp
       refine hK _ _ ?_
       clear hK K
       refine wpAny_ready (rs:=[12]) (by kernel_rfl) (by decide) (AllReady.cons rfl (fun K hK=>?_) AllReady.nil)
       go_simp
       refine (HCE.out _ (by (exact kp))).mono ?_
       rintro e w5 ⟨rfl,hr5,hu5⟩
       have hU5:=((Keeps.refl wr).drew.upd (fun k=>k=w.heap.size)).trans' hu5
       have hT5:=HTW.out.read HRW.out hU5
       have g5:=hT5.cells.2.2.2.1
       have g6:=hT5.cells.2.2.2.2.1
       have gf:=hT5.cells.2.2.2.2.2
       have HT5e:=Lib.hid (txt_edge hT5 e9)
       have HR5e:=Lib.hid (hr5.upd (updX2 w5 w1.heap.size 5 6 (.int .u8 e9.tag) (.int .u32 e9.to)) (fun k hk e=>by omega))
       have HK5e:=Lib.hid ((HKW.out.new hU5 (fun k hk=>by omega)).new (updX2 w5 w1.heap.size 5 6 (.int .u8 e9.tag) (.int .u32 e9.to)) (fun k hk=>by omega))
       have xl5:w1.heap.size < w5.heap.size:=by obtain ⟨⟨_,_,h1,_⟩,_⟩:=hT5;exact lt_of_heap h1
       refine hK _ _ ?_
       clear hK K hT5 hr5 hu5 hU5
       refine wpAny_take (i:=13) (v:=?_) rfl (by kernel_rfl) (by kernel_rfl) (by kernel_rfl) (fun _ _ _ h=>h) (Or.inl ⟨by rfl,?_⟩) ?_
       rotate_left
       ·intro w;go_simp;try with_reducible rfl
       refine wpAny_take (i:=14) (v:=?_) rfl (by kernel_rfl) (by kernel_rfl) (by kernel_rfl) (fun _ _ _ h=>h) (Or.inl ⟨by rfl,?_⟩) ?_
       rotate_left
       ·intro w;go_simp;try with_reducible rfl
       refine wpAny_ready (rs:=[15]) (by kernel_rfl) (by decide) (AllReady.cons rfl (fun K hK=>?_) AllReady.nil)
       go_simp
       refine hK _ _ ?_
       clear hK K
       refine wpAny_done (by kernel_rfl) ?_ _
       have HEN:=Lib.hid (rdEnd_calls HR5e.out)
       have HIF:=Lib.hid (fun (W:World)=>isForm_calls (f0:Int) W)
       have x1:=HT5e.out.cells.2.1
       obtain ⟨hRE,hRL⟩:=read_end hn0'.out hf0'.out (HPM.out.trans HPRE.out) HRD.out (by have q:=HK0.out;rw [HK.out] at q;exact q) HA.out HEX.out HE9.out
       have HRE:=Lib.hid hRE
       have HRL:=Lib.hid hRL
       clear hRE hRL g5 g6 gf e1 e3 ef
       by_cases hend:rd9=some []
       ·have HND:=Lib.hid hend
        clear hend
        cases hb:isFormB (f0:Int) with
        | true=>
         rw [hb] at HIF
         have HBB:=Lib.hid hb
         clear hb
         go_wp2_with (first | (go_at_call 129;refine HEN.out.mono ?_;rintro e w6 ⟨x,rfl,hx,rfl⟩;have hx0:x=0:=hx.2 HND.out;subst hx0;clear hx) | (go_at_call 61;refine (HIF.out _).mono ?_;rintro e w7 ⟨rfl,rfl⟩) | fail)
         go_ret2
         obtain ⟨q1,q2⟩:=read_fin (P:=fun T=>TxtRep w.heap.size _ w1.heap.size T.vars T.form T.perm T.l.length T.l T.e) HRE.out rfl true (by simp [HND.out,HBB.out]) (fun h=>by have q:=HT5e.out;rw [← HRL.out h] at q;exact q)
         exact ⟨_,_,rfl,q1,q2,HK5e.out⟩
        | false=>
         rw [hb] at HIF
         have HBB:=Lib.hid hb
         clear hb
         go_wp2_with (first | (go_at_call 129;refine HEN.out.mono ?_;rintro e w6 ⟨x,rfl,hx,rfl⟩;have hx0:x=0:=hx.2 HND.out;subst hx0;clear hx) | (go_at_call 61;refine (HIF.out _).mono ?_;rintro e w7 ⟨rfl,rfl⟩) | fail)
         go_ret2
         obtain ⟨q1,q2⟩:=read_fin (P:=fun T=>TxtRep w.heap.size _ w1.heap.size T.vars T.form T.perm T.l.length T.l T.e) HRE.out rfl false (by simp [HBB.out]) (fun h=>by have q:=HT5e.out;rw [← HRL.out h] at q;exact q)
         exact ⟨_,_,rfl,q1,q2,HK5e.out⟩
       ·have HND:=Lib.hid hend
        clear hend
        go_wp2_with (first | (go_at_call 129;refine HEN.out.mono ?_;rintro e w6 ⟨x,rfl,hx,rfl⟩;have hx0:(x == 0)=false:=(by have h9:x ≠ 0:=fun h=>HND.out (hx.1 h);simp [h9]);clear hx) | fail)
        go_ret2
        obtain ⟨q1,q2⟩:=read_fin (P:=fun T=>TxtRep w.heap.size _ w1.heap.size T.vars T.form T.perm T.l.length T.l T.e) HRE.out rfl false (by simp [HND.out]) (fun h=>absurd h HND.out)
        exact ⟨_,_,rfl,q1,q2,HK5e.out⟩
     ·have i1:¬ ((i:Int) < (k0:Int)):=by omega
      go_wp2_with fail
      refine wp_region_any (by kernel_rfl) ?_
      refine wpAny_take (i:=0) (v:=?_) rfl (by kernel_rfl) (by kernel_rfl) (by kernel_rfl) (fun _ _ _ h=>h) (Or.inl ⟨by rfl,?_⟩) ?_
      rotate_left
      ·intro w;go_simp;try with_reducible rfl
      refine wpAny_take (i:=1) (v:=?_) rfl (by kernel_rfl) (by kernel_rfl) (by kernel_rfl) (fun _ _ _ h=>h) (Or.inl ⟨by rfl,?_⟩) ?_
      rotate_left
      ·intro w;go_simp;try with_reducible rfl
      refine wpAny_take (i:=2) (v:=?_) rfl (by kernel_rfl) (by kernel_rfl) (by kernel_rfl) (fun _ _ _ h=>h) (Or.inl ⟨by rfl,?_⟩) ?_
      rotate_left
      ·intro w;go_simp;try with_reducible rfl
      refine wpAny_take (i:=3) (v:=?_) rfl (by kernel_rfl) (by kernel_rfl) (by kernel_rfl) (fun _ _ _ h=>h) (Or.inl ⟨by rfl,?_⟩) ?_
      rotate_left
      ·intro w;go_simp;try with_reducible rfl
      refine wpAny_take (i:=4) (v:=?_) rfl (by kernel_rfl) (by kernel_rfl) (by kernel_rfl) (fun _ _ _ h=>h) (Or.inl ⟨by rfl,?_⟩) ?_
      rotate_left
      ·intro w;go_simp;try with_reducible rfl
      refine wpAny_take (i:=5) (v:=?_) rfl (by kernel_rfl) (by kernel_rfl) (by kernel_rfl) (fun _ _ _ h=>h) (Or.inl ⟨by rfl,?_⟩) ?_
      rotate_left
      ·intro w;go_simp;try with_reducible rfl
      refine wpAny_take (i:=7) (v:=?_) rfl (by kernel_rfl) (by kernel_rfl) (by kernel_rfl) (fun _ _ _ h=>h) (Or.inl ⟨by rfl,?_⟩) ?_
      rotate_left
      ·intro w;go_simp;try with_reducible rfl
      refine wpAny_take (i:=8) (v:=?_) rfl (by kernel_rfl) (by kernel_rfl) (by kernel_rfl) (fun _ _ _ h=>h) (Or.inl ⟨by rfl,?_⟩) ?_
      rotate_left
      ·intro w;go_simp;try with_reducible rfl
      refine wpAny_take (i:=9) (v:=?_) rfl (by kernel_rfl) (by kernel_rfl) (by kernel_rfl) (fun _ _ _ h=>h) (Or.inl ⟨by rfl,?_⟩) ?_
      rotate_left
      ·intro w;go_simp;try with_reducible rfl
      refine wpAny_take (i:=10) (v:=?_) rfl (by kernel_rfl) (by kernel_rfl) (by kernel_rfl) (fun _ _ _ h=>h) (Or.inl ⟨by rfl,?_⟩) ?_
      rotate_left
      ·intro w;go_simp;try with_reducible rfl
      refine wpAny_ready (rs:=[6,11]) (by kernel_rfl) (by decide) (AllReady.cons rfl (fun K hK=>?_) (AllReady.cons rfl (fun K hK=>?_) AllReady.nil))
      ·go_simp
       refine hK _ _ ?_
       clear hK K
       refine wpAny_ready (rs:=[11]) (by kernel_rfl) (by decide) (AllReady.cons rfl (fun K hK=>?_) AllReady.nil)
       go_simp
       refine hK _ _ ?_
       clear hK K
       refine wpAny_ready (rs:=[12]) (by kernel_rfl) (by decide) (AllReady.cons rfl (fun K hK=>?_) AllReady.nil)
       go_simp
       refine (HCE.out _ (by (exact kp))).mono ?_
       rintro e w5 ⟨rfl,hr5,hu5⟩
       have hU5:=((Keeps.refl wr).drew.upd (fun k=>k=w.heap.size)).trans' hu5
       have hT5:=HTW.out.read HRW.out hU5
       have g5:=hT5.cells.2.2.2.1
       have g6:=hT5.cells.2.2.2.2.1
       have gf:=hT5.cells.2.2.2.2.2
       have HT5e:=Lib.hid (txt_edge hT5 e9)
       have HR5e:=Lib.hid (hr5.upd (updX2 w5 w1.heap.size 5 6 (.int .u8 e9.tag) (.int .u32 e9.to)) (fun k hk e=>by omega))
       have HK5e:=Lib.hid ((HKW.out.new hU5 (fun k hk=>by omega)).new (updX2 w5 w1.heap.size 5 6 (.int .u8 e9.tag) (.int .u32 e9.to)) (fun k hk=>by omega))
       have xl5:w1.heap.size < w5.heap.size:=by obtain ⟨⟨_,_,h1,_⟩,_⟩:=hT5;exact lt_of_heap h1
       refine hK _ _ ?_
       clear hK K hT5 hr5 hu5 hU5
       refine wpAny_take (i:=13) (v:=?_) rfl (by kernel_rfl) (by kernel_rfl) (by kernel_rfl) (fun _ _ _ h=>h) (Or.inl ⟨by rfl,?_⟩) ?_
       rotate_left
       ·intro w;go_simp;try with_reducible rfl
       refine wpAny_take (i:=14) (v:=?_) rfl (by kernel_rfl) (by kernel_rfl) (by kernel_rfl) (fun _ _ _ h=>h) (Or.inl ⟨by rfl,?_⟩) ?_
       rotate_left
       ·intro w;go_simp;try with_reducible rfl
       refine wpAny_ready (rs:=[15]) (by kernel_rfl) (by decide) (AllReady.cons rfl (fun K hK=>?_) AllReady.nil)
       go_simp
       refine hK _ _ ?_
       clear hK K
       refine wpAny_done (by kernel_rfl) ?_ _
       have HEN:=Lib.hid (rdEnd_calls HR5e.out)
       have HIF:=Lib.hid (fun (W:World)=>isForm_calls (f0:Int) W)
       have x1:=HT5e.out.cells.2.1
       obtain ⟨hRE,hRL⟩:=read_end hn0'.out hf0'.out (HPM.out.trans HPRE.out) HRD.out (by have q:=HK0.out;rw [HK.out] at q;exact q) HA.out HEX.out HE9.out
       have HRE:=Lib.hid hRE
       have HRL:=Lib.hid hRL
       clear hRE hRL g5 g6 gf e1 e3 ef
       by_cases hend:rd9=some []
       ·have HND:=Lib.hid hend
        clear hend
        cases hb:isFormB (f0:Int) with
        | true=>
         rw [hb] at HIF
         have HBB:=Lib.hid hb
         clear hb
         go_wp2_with (first | (go_at_call 129;refine HEN.out.mono ?_;rintro e w6 ⟨x,rfl,hx,rfl⟩;have hx0:x=0:=hx.2 HND.out;subst hx0;clear hx) | (go_at_call 61;refine (HIF.out _).mono ?_;rintro e w7 ⟨rfl,rfl⟩) | fail)
         go_ret2
         obtain ⟨q1,q2⟩:=read_fin (P:=fun T=>TxtRep w.heap.size _ w1.heap.size T.vars T.form T.perm T.l.length T.l T.e) HRE.out rfl true (by simp [HND.out,HBB.out]) (fun h=>by have q:=HT5e.out;rw [← HRL.out h] at q;exact q)
         exact ⟨_,_,rfl,q1,q2,HK5e.out⟩
        | false=>
         rw [hb] at HIF
         have HBB:=Lib.hid hb
         clear hb
         go_wp2_with (first | (go_at_call 129;refine HEN.out.mono ?_;rintro e w6 ⟨x,rfl,hx,rfl⟩;have hx0:x=0:=hx.2 HND.out;subst hx0;clear hx) | (go_at_call 61;refine (HIF.out _).mono ?_;rintro e w7 ⟨rfl,rfl⟩) | fail)
         go_ret2
         obtain ⟨q1,q2⟩:=read_fin (P:=fun T=>TxtRep w.heap.size _ w1.heap.size T.vars T.form T.perm T.l.length T.l T.e) HRE.out rfl false (by simp [HBB.out]) (fun h=>by have q:=HT5e.out;rw [← HRL.out h] at q;exact q)
         exact ⟨_,_,rfl,q1,q2,HK5e.out⟩
       ·have HND:=Lib.hid hend
        clear hend
        go_wp2_with (first | (go_at_call 129;refine HEN.out.mono ?_;rintro e w6 ⟨x,rfl,hx,rfl⟩;have hx0:(x == 0)=false:=(by have h9:x ≠ 0:=fun h=>HND.out (hx.1 h);simp [h9]);clear hx) | fail)
        go_ret2
        obtain ⟨q1,q2⟩:=read_fin (P:=fun T=>TxtRep w.heap.size _ w1.heap.size T.vars T.form T.perm T.l.length T.l T.e) HRE.out rfl false (by simp [HND.out]) (fun h=>absurd h HND.out)
        exact ⟨_,_,rfl,q1,q2,HK5e.out⟩
      ·go_simp
       refine hK _ _ ?_
       clear hK K
       refine wpAny_ready (rs:=[6]) (by kernel_rfl) (by decide) (AllReady.cons rfl (fun K hK=>?_) AllReady.nil)
       go_simp
       refine hK _ _ ?_
       clear hK K
       refine wpAny_ready (rs:=[12]) (by kernel_rfl) (by decide) (AllReady.cons rfl (fun K hK=>?_) AllReady.nil)
       go_simp
       refine (HCE.out _ (by (exact kp))).mono ?_
       rintro e w5 ⟨rfl,hr5,hu5⟩
       have hU5:=((Keeps.refl wr).drew.upd (fun k=>k=w.heap.size)).trans' hu5
       have hT5:=HTW.out.read HRW.out hU5
       have g5:=hT5.cells.2.2.2.1
       have g6:=hT5.cells.2.2.2.2.1
       have gf:=hT5.cells.2.2.2.2.2
       have HT5e:=Lib.hid (txt_edge hT5 e9)
       have HR5e:=Lib.hid (hr5.upd (updX2 w5 w1.heap.size 5 6 (.int .u8 e9.tag) (.int .u32 e9.to)) (fun k hk e=>by omega))
       have HK5e:=Lib.hid ((HKW.out.new hU5 (fun k hk=>by omega)).new (updX2 w5 w1.heap.size 5 6 (.int .u8 e9.tag) (.int .u32 e9.to)) (fun k hk=>by omega))
       have xl5:w1.heap.size < w5.heap.size:=by obtain ⟨⟨_,_,h1,_⟩,_⟩:=hT5;exact lt_of_heap h1
       refine hK _ _ ?_
       clear hK K hT5 hr5 hu5 hU5
       refine wpAny_take (i:=13) (v:=?_) rfl (by kernel_rfl) (by kernel_rfl) (by kernel_rfl) (fun _ _ _ h=>h) (Or.inl ⟨by rfl,?_⟩) ?_
       rotate_left
       ·intro w;go_simp;try with_reducible rfl
       refine wpAny_take (i:=14) (v:=?_) rfl (by kernel_rfl) (by kernel_rfl) (by kernel_rfl) (fun _ _ _ h=>h) (Or.inl ⟨by rfl,?_⟩) ?_
       rotate_left
       ·intro w;go_simp;try with_reducible rfl
       refine wpAny_ready (rs:=[15]) (by kernel_rfl) (by decide) (AllReady.cons rfl (fun K hK=>?_) AllReady.nil)
       go_simp
       refine hK _ _ ?_
       clear hK K
       refine wpAny_done (by kernel_rfl) ?_ _
       have HEN:=Lib.hid (rdEnd_calls HR5e.out)
       have HIF:=Lib.hid (fun (W:World)=>isForm_calls (f0:Int) W)
       have x1:=HT5e.out.cells.2.1
       obtain ⟨hRE,hRL⟩:=read_end hn0'.out hf0'.out (HPM.out.trans HPRE.out) HRD.out (by have q:=HK0.out;rw [HK.out] at q;exact q) HA.out HEX.out HE9.out
       have HRE:=Lib.hid hRE
       have HRL:=Lib.hid hRL
       clear hRE hRL g5 g6 gf e1 e3 ef
       by_cases hend:rd9=some []
       ·have HND:=Lib.hid hend
        clear hend
        cases hb:isFormB (f0:Int) with
        | true=>
         rw [hb] at HIF
         have HBB:=Lib.hid hb
         clear hb
         go_wp2_with (first | (go_at_call 129;refine HEN.out.mono ?_;rintro e w6 ⟨x,rfl,hx,rfl⟩;have hx0:x=0:=hx.2 HND.out;subst hx0;clear hx) | (go_at_call 61;refine (HIF.out _).mono ?_;rintro e w7 ⟨rfl,rfl⟩) | fail)
         go_ret2
         obtain ⟨q1,q2⟩:=read_fin (P:=fun T=>TxtRep w.heap.size _ w1.heap.size T.vars T.form T.perm T.l.length T.l T.e) HRE.out rfl true (by simp [HND.out,HBB.out]) (fun h=>by have q:=HT5e.out;rw [← HRL.out h] at q;exact q)
         exact ⟨_,_,rfl,q1,q2,HK5e.out⟩
        | false=>
         rw [hb] at HIF
         have HBB:=Lib.hid hb
         clear hb
         go_wp2_with (first | (go_at_call 129;refine HEN.out.mono ?_;rintro e w6 ⟨x,rfl,hx,rfl⟩;have hx0:x=0:=hx.2 HND.out;subst hx0;clear hx) | (go_at_call 61;refine (HIF.out _).mono ?_;rintro e w7 ⟨rfl,rfl⟩) | fail)
         go_ret2
         obtain ⟨q1,q2⟩:=read_fin (P:=fun T=>TxtRep w.heap.size _ w1.heap.size T.vars T.form T.perm T.l.length T.l T.e) HRE.out rfl false (by simp [HBB.out]) (fun h=>by have q:=HT5e.out;rw [← HRL.out h] at q;exact q)
         exact ⟨_,_,rfl,q1,q2,HK5e.out⟩
       ·have HND:=Lib.hid hend
        clear hend
        go_wp2_with (first | (go_at_call 129;refine HEN.out.mono ?_;rintro e w6 ⟨x,rfl,hx,rfl⟩;have hx0:(x == 0)=false:=(by have h9:x ≠ 0:=fun h=>HND.out (hx.1 h);simp [h9]);clear hx) | fail)
        go_ret2
        obtain ⟨q1,q2⟩:=read_fin (P:=fun T=>TxtRep w.heap.size _ w1.heap.size T.vars T.form T.perm T.l.length T.l T.e) HRE.out rfl false (by simp [HND.out]) (fun h=>absurd h HND.out)
        exact ⟨_,_,rfl,q1,q2,HK5e.out⟩

end Go.Proofs.YtfpjogpjocedaaaGreat
