/-
  save.pen: a number, an edge, behind what is written.
-/
import Derived.Test.YtiifimnpmbfihaaGreatPReachA
import Derived.Test.YtiifimnpmbfihaaGreatPWireB
namespace Go.Proofs.YtiifimnpmbfihaaGreat
set_option linter.unusedSimpArgs false
set_option linter.unusedVariables false
set_option maxHeartbeats 600000
open Go Go.RowKit

structure Pen (base:Nat) (w:World) (pb:Nat) (c0 c1 c3:Value) (bs:List Int):Prop where
 ex:∃ v,w.heap[pb]?=some (.cells #[c0,c1,v,c3] 257 (0,0)) ∧ BsRow base w v bs
 hi:base ≤ pb

def PF (w:World) (base pb:Nat) (mb:Option Nat) (k:Nat):Prop:=k=pb ∨ some k=mb ∨ (base ≤ k ∧ IsBlk w 5 k)

theorem Upd.pens {w w1 w2:World} {base pb:Nat} {mb:Option Nat} (h:Upd (PF w base pb mb) w w1) (k:Upd (PF w1 base pb mb) w1 w2):Upd (PF w base pb mb) w w2:=
 ⟨k.os.trans h.os,k.tape.trans h.tape,k.output.trans h.output,Nat.le_trans h.size k.size,fun i hi hf=>by
  have h1:=h.block i hi hf
  have hf1:¬ PF w1 base pb mb i:=fun hh=>hf (by
   rcases hh with hh | hh | ⟨hb,cs,hh⟩
   ·exact .inl hh
   ·exact .inr (.inl hh)
   ·exact .inr (.inr ⟨hb,cs,by rw [← h1];exact hh⟩))
  exact (k.block i (Nat.lt_of_lt_of_le hi h.size) hf1).trans h1⟩

theorem Upd.pen_map {w w1:World} {base pb:Nat} (h:Upd (PF w base pb none) w w1) (mb:Option Nat):Upd (PF w base pb mb) w w1:=
 h.mono fun k _ hk=>by
  rcases hk with hk | hk | hk
  ·exact .inl hk
  ·cases hk
  ·exact .inr (.inr hk)

theorem Upd.pen_keeps {w w1:World} {base pb:Nat} {mb:Option Nat} (h:Upd (PF w base pb mb) w w1) (hp:base ≤ pb) (hm:∀ k,mb=some k → base ≤ k) {w0:World} (h0:Keeps w0 w) (hb:w0.heap.size ≤ base):Keeps w0 w1:=
 h0.new h fun k hk=>by
  rcases hk with hk | hk | hk
  ·omega
  ·have:=hm k hk.symm;omega
  ·have:=hk.1;omega

theorem Pen.keeps {base:Nat} {w w':World} {pb:Nat} {c0 c1 c3:Value} {bs:List Int} (h:Pen base w pb c0 c1 c3 bs) (hk:Keeps w w'):Pen base w' pb c0 c1 c3 bs:=by
 obtain ⟨⟨v,h1,h2⟩,h3⟩:=h
 exact ⟨⟨v,hk.heap h1,h2.keeps hk⟩,h3⟩

theorem Pen.cell {base:Nat} {w:World} {pb:Nat} {c0 c1 c3:Value} {bs:List Int} (h:Pen base w pb c0 c1 c3 bs):w.cell? ⟨pb,0,none⟩=some c0 ∧ w.cell? ⟨pb,1,none⟩=some c1 ∧ w.cell? ⟨pb,3,none⟩=some c3:=by
 obtain ⟨⟨v,h1,h2⟩,h3⟩:=h
 exact ⟨by rw [cell_of_row w pb 0 _ _ _ h1];rfl,by rw [cell_of_row w pb 1 _ _ _ h1];rfl,by rw [cell_of_row w pb 3 _ _ _ h1];rfl⟩

theorem Upd.pen_other {w w':World} {base pb:Nat} {mb:Option Nat} (h:Upd (PF w base pb mb) w w') {b o:Nat} {v:Value} {t:TypeId} {q:Nat × Nat} {cs:Array Value} (hb:w.heap[b]?=some (.cells cs t q)) (ht:t ≠ 5) (hp:b ≠ pb) (hm:mb ≠ some b) (hc:w.cell? ⟨b,o,none⟩=some v):w'.cell? ⟨b,o,none⟩=some v:=
 h.cellAt (fun hh=>by
  rcases hh with hh | hh | ⟨_,cs',hh⟩
  ·exact hp hh
  ·exact hm hh.symm
  ·rw [hb] at hh
   cases hh
   exact ht rfl) hc

theorem Pen.grown {base:Nat} {w w1 w2:World} {pb:Nat} {c0 c1 c3 v v':Value} {bs cs:List Int} (hp:w.heap[pb]?=some (.cells #[c0,c1,v,c3] 257 (0,0))) (hb:base ≤ pb) (hr:BsRow base w v bs) (hk:Keeps w w1) (hr2:BsRow base w2 v' (bs ++ cs)) (hg:w1.grownBy w2 v.ownBlock) :
  w2.heap[pb]?=some (.cells #[c0,c1,v,c3] 257 (0,0)) ∧ Pen base (w2.setCell ⟨pb,2,none⟩ v') pb c0 c1 c3 (bs ++ cs) ∧ Upd (PF w base pb none) w (w2.setCell ⟨pb,2,none⟩ v'):=by
 have hne:v.ownBlock ≠ some pb:=hr.other hp (by decide)
 have hp1:=hk.heap hp
 have hp2:w2.heap[pb]?=some (.cells #[c0,c1,v,c3] 257 (0,0)):=(hg.block pb (lt_of_heap hp1) (fun e=>hne e.symm)).trans hp1
 have hne2:v'.ownBlock ≠ some pb:=hr2.other hp2 (by decide)
 refine ⟨hp2,⟨⟨v',heap_setCell_same w2 pb 2 _ _ v' hp2,?_⟩,hb⟩,?_⟩
 ·exact Upd.owns (F:=fun k=>k=pb) (Upd.setCell (F:=fun k=>k=pb) (p:=⟨pb,2,none⟩) (Upd.refl _ w2) (.inl rfl) v') (fun k hk e=>hne2 (by rw [hk,e])) hr2
 ·refine Upd.setCell (Upd.grown (hk.upd _) hg (fun k hk=>.inl (.inr (.inr ?_)))) (.inl (.inl rfl)) v'
  obtain ⟨h1,h2⟩:=hr.blk hk
  exact ⟨h2,h1⟩

set_option maxRecDepth 100000 in
set_option maxHeartbeats 2000000 in
theorem pen_num {base:Nat} {w:World} {pb:Nat} {c0 c1 c3:Value} {bs:List Int} (h:Pen base w pb c0 c1 c3 bs) (n:Nat) (hn:n < 2 ^ 64) (hl:bs.length ≤ 1000000000) :
  Calls Tryz.prog 176 #[.pointer (some ⟨pb,0,none⟩),.int .u64 (n:Int)] w fun e w'=>e=.returned (.tuple #[]) ∧ Pen base w' pb c0 c1 c3 (bs ++ putB n) ∧ Upd (PF w base pb none) w w':=by
 have HPut:=Lib.hid (fun (W:World)=>wirePut_calls n hn W)
 have HL:=Lib.hid (putB_len10 hn)
 obtain ⟨⟨v,h1,h2⟩,h3⟩:=h
 have e2:w.cell? ⟨pb,2,none⟩=some v:=by rw [cell_of_row w pb 2 _ _ _ h1];rfl
 have ef:=frozen_of_row w pb 2 _ _ h1
 have hpw:=lt_of_heap h1
 have H1:=Lib.hid h1
 have H2:=Lib.hid h2
 have HN:=Lib.hid hn
 clear h1 h2 hn
 go_enter Tryz.func176,Tryz.ntmps176
 refine wp_region_any (by kernel_rfl) ?_
 refine wpAny_take (i:=0) (v:=?_) rfl (by kernel_rfl) (by kernel_rfl) (by kernel_rfl) (fun _ _ _ h=>h) (Or.inl ⟨by rfl,?_⟩) ?_
 rotate_left
 ·intro w;go_simp;try with_reducible rfl
 refine wpAny_take (i:=1) (v:=?_) rfl (by kernel_rfl) (by kernel_rfl) (by kernel_rfl) (fun _ _ _ h=>h) (Or.inl ⟨by rfl,?_⟩) ?_
 rotate_left
 ·intro w;go_simp;try with_reducible rfl
 refine wpAny_take (i:=2) (v:=?_) rfl (by kernel_rfl) (by kernel_rfl) (by kernel_rfl) (fun _ _ _ h=>h) (Or.inl ⟨by rfl,?_⟩) ?_
 rotate_left
 ·intro w;go_simp;try with_reducible rfl
 refine wpAny_take (i:=3) (v:=?_) rfl (by kernel_rfl) (by kernel_rfl) (by kernel_rfl) (fun _ _ _ h=>h) (Or.inl ⟨by rfl,?_⟩) ?_
 rotate_left
 ·intro w;go_simp;try with_reducible rfl
 refine wpAny_take (i:=5) (v:=?_) rfl (by kernel_rfl) (by kernel_rfl) (by kernel_rfl) (fun _ _ _ h=>h) (Or.inl ⟨by rfl,?_⟩) ?_
 rotate_left
 ·intro w;go_simp;try with_reducible rfl
 refine wpAny_ready (rs:=[4,6]) (by kernel_rfl) (by decide) (AllReady.cons rfl (fun K hK=>?_) (AllReady.cons rfl (fun K hK=>?_) AllReady.nil))
 ·go_simp
  refine hK _ _ ?_
  clear hK K
  refine wpAny_ready (rs:=[6]) (by kernel_rfl) (by decide) (AllReady.cons rfl (fun K hK=>?_) AllReady.nil)
  go_simp
  refine (HPut.out _).mono ?_
  rintro e w1 ⟨x,rfl,hx,hk⟩
  refine hK _ _ ?_
  clear hK K
  have hk1:Keeps w w1:=((Keeps.refl w).drew).trans hk
  have hpw1:=hk1.size
  refine wpAny_ready (rs:=[7]) (by kernel_rfl) (by decide) (AllReady.cons rfl (fun K hK=>?_) AllReady.nil)
  refine wpB_append_op (.tmp 8) (.tmp 10) rfl base w.drew.heap.size v x bs (putB n) rfl rfl (H2.out.keeps hk1) hx (putB_pos n) (by have:=HL.out;omega) (by omega) ?_
  intro v' w2 hr2 hg
  have HG:=Lib.hid (Pen.grown H1.out h3 H2.out hk1 hr2 hg)
  have f1:w2.cell? ⟨pb,2,none⟩=some v:=by rw [cell_of_row w2 pb 2 _ _ _ HG.out.1];rfl
  have f2:=frozen_of_row w2 pb 2 _ _ HG.out.1
  obtain ⟨va,vcap,hv',-⟩:=hr2.slice
  obtain ⟨L,hL⟩:∃ L,L=(bs ++ putB n).length:=⟨_,rfl⟩
  rw [← hL] at hv'
  subst hv'
  clear hL
  refine hK _ _ ?_
  clear hK K
  refine wpAny_take (i:=8) (v:=?_) rfl (by kernel_rfl) (by kernel_rfl) (by kernel_rfl) (fun _ _ _ h=>h) (Or.inl ⟨by rfl,?_⟩) ?_
  rotate_left
  ·intro w;go_simp;try with_reducible rfl
  refine wpAny_take (i:=9) (v:=?_) rfl (by kernel_rfl) (by kernel_rfl) (by kernel_rfl) (fun _ _ _ h=>h) (Or.inl ⟨by rfl,?_⟩) ?_
  rotate_left
  ·intro w;go_simp;try with_reducible rfl
  refine wpAny_ready (rs:=[10]) (by kernel_rfl) (by decide) (AllReady.cons rfl (fun K hK=>?_) AllReady.nil)
  go_simp
  refine hK _ _ ?_
  clear hK K
  refine wpAny_done (by kernel_rfl) ?_ _
  first | go_end0 | refine bodyPost_ret (results_none rfl _ _ _) rfl ?_
  exact ⟨rfl,HG.out.2.1,HG.out.2.2⟩
 ·go_simp
  refine (HPut.out _).mono ?_
  rintro e w1 ⟨x,rfl,hx,hk⟩
  refine hK _ _ ?_
  clear hK K
  have hk1:Keeps w w1:=((Keeps.refl w).drew).trans hk
  have hpw1:=hk1.size
  refine wpAny_ready (rs:=[4]) (by kernel_rfl) (by decide) (AllReady.cons rfl (fun K hK=>?_) AllReady.nil)
  replace e2:=hk1.cell e2
  go_simp
  refine hK _ _ ?_
  clear hK K
  refine wpAny_ready (rs:=[7]) (by kernel_rfl) (by decide) (AllReady.cons rfl (fun K hK=>?_) AllReady.nil)
  refine wpB_append_op (.tmp 8) (.tmp 10) rfl base w.drew.heap.size v x bs (putB n) rfl rfl (H2.out.keeps hk1) hx (putB_pos n) (by have:=HL.out;omega) (by omega) ?_
  intro v' w2 hr2 hg
  have HG:=Lib.hid (Pen.grown H1.out h3 H2.out hk1 hr2 hg)
  have f1:w2.cell? ⟨pb,2,none⟩=some v:=by rw [cell_of_row w2 pb 2 _ _ _ HG.out.1];rfl
  have f2:=frozen_of_row w2 pb 2 _ _ HG.out.1
  obtain ⟨va,vcap,hv',-⟩:=hr2.slice
  obtain ⟨L,hL⟩:∃ L,L=(bs ++ putB n).length:=⟨_,rfl⟩
  rw [← hL] at hv'
  subst hv'
  clear hL
  refine hK _ _ ?_
  clear hK K
  refine wpAny_take (i:=8) (v:=?_) rfl (by kernel_rfl) (by kernel_rfl) (by kernel_rfl) (fun _ _ _ h=>h) (Or.inl ⟨by rfl,?_⟩) ?_
  rotate_left
  ·intro w;go_simp;try with_reducible rfl
  refine wpAny_take (i:=9) (v:=?_) rfl (by kernel_rfl) (by kernel_rfl) (by kernel_rfl) (fun _ _ _ h=>h) (Or.inl ⟨by rfl,?_⟩) ?_
  rotate_left
  ·intro w;go_simp;try with_reducible rfl
  refine wpAny_ready (rs:=[10]) (by kernel_rfl) (by decide) (AllReady.cons rfl (fun K hK=>?_) AllReady.nil)
  go_simp
  refine hK _ _ ?_
  clear hK K
  refine wpAny_done (by kernel_rfl) ?_ _
  first | go_end0 | refine bodyPost_ret (results_none rfl _ _ _) rfl ?_
  exact ⟨rfl,HG.out.2.1,HG.out.2.2⟩

end Go.Proofs.YtiifimnpmbfihaaGreat
