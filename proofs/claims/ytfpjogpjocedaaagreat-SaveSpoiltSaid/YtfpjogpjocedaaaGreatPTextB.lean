/-
  A record's box while it is filled; the row of records has grown.
-/
import Derived.Test.YtfpjogpjocedaaaGreatPTextR
namespace Go.Proofs.YtfpjogpjocedaaaGreat
set_option linter.unusedSimpArgs false
set_option linter.unusedVariables false
set_option maxHeartbeats 600000
open Go Go.RowKit

structure RecBox (w:World) (X:Nat) (r:Rec):Prop where
 ex:w.heap[X]?=some (.cells #[.int .u8 r.form,.int .u8 r.top,.int .u8 r.bot,.int .u8 r.lo.tag,.int .u32 r.lo.to,.int .u8 r.hi.tag,.int .u32 r.hi.to] 87 (0,0))

theorem RecBox.lt {w:World} {X:Nat} {r:Rec} (h:RecBox w X r):X < w.heap.size:=lt_of_heap h.ex

theorem RecBox.cells {w:World} {X:Nat} {r:Rec} (h:RecBox w X r):w.cell? ⟨X,0,none⟩=some (.int .u8 r.form) ∧ w.cell? ⟨X,1,none⟩=some (.int .u8 r.top) ∧ w.cell? ⟨X,2,none⟩=some (.int .u8 r.bot) ∧ w.cell? ⟨X,3,none⟩=some (.int .u8 r.lo.tag) ∧ w.cell? ⟨X,4,none⟩=some (.int .u32 r.lo.to) ∧ w.cell? ⟨X,5,none⟩=some (.int .u8 r.hi.tag) ∧ w.cell? ⟨X,6,none⟩=some (.int .u32 r.hi.to) ∧ ∀ o,w.frozen? ⟨X,o,none⟩=false:=by
 have h1:=h.ex
 refine ⟨?_,?_,?_,?_,?_,?_,?_,fun o=>frozen_of_row w X o _ _ h1⟩
 ·rw [cell_of_row w X 0 _ _ _ h1];rfl
 ·rw [cell_of_row w X 1 _ _ _ h1];rfl
 ·rw [cell_of_row w X 2 _ _ _ h1];rfl
 ·rw [cell_of_row w X 3 _ _ _ h1];rfl
 ·rw [cell_of_row w X 4 _ _ _ h1];rfl
 ·rw [cell_of_row w X 5 _ _ _ h1];rfl
 ·rw [cell_of_row w X 6 _ _ _ h1];rfl

theorem RecBox.upd {w w':World} {X:Nat} {r:Rec} {G:Nat → Prop} (h:RecBox w X r) (hu:Upd G w w') (hg:¬ G X):RecBox w' X r:=⟨(hu.block X h.lt hg).trans h.ex⟩

theorem RecBox.setBot {w:World} {X:Nat} {r:Rec} (h:RecBox w X r) (b:Int):RecBox (w.setCell ⟨X,2,none⟩ (.int .u8 b)) X ⟨r.form,r.top,b,r.lo,r.hi⟩:=⟨heap_setCell_same w X 2 _ _ _ h.ex⟩

theorem RecBox.setLo {w:World} {X:Nat} {r:Rec} (h:RecBox w X r) (e:Edge):RecBox ((w.setCell ⟨X,3,none⟩ (.int .u8 e.tag)).setCell ⟨X,4,none⟩ (.int .u32 e.to)) X ⟨r.form,r.top,r.bot,e,r.hi⟩:=⟨heap_setCell_same _ X 4 _ _ _ (heap_setCell_same w X 3 _ _ _ h.ex)⟩

theorem RecBox.setHi {w:World} {X:Nat} {r:Rec} (h:RecBox w X r) (e:Edge):RecBox ((w.setCell ⟨X,5,none⟩ (.int .u8 e.tag)).setCell ⟨X,6,none⟩ (.int .u32 e.to)) X ⟨r.form,r.top,r.bot,r.lo,e⟩:=⟨heap_setCell_same _ X 6 _ _ _ (heap_setCell_same w X 5 _ _ _ h.ex)⟩

theorem updX (w:World) (X o:Nat) (v:Value):Upd (fun k=>k=X) w (w.setCell ⟨X,o,none⟩ v):=Upd.setCell (F:=fun k=>k=X) (p:=⟨X,o,none⟩) (Upd.refl _ _) (.inl rfl) _

theorem updX2 (w:World) (X o o':Nat) (v v':Value):Upd (fun k=>k=X) w ((w.setCell ⟨X,o,none⟩ v).setCell ⟨X,o',none⟩ v'):=Upd.setCell (F:=fun k=>k=X) (p:=⟨X,o',none⟩) (updX w X o v) (.inl rfl) _

theorem Upd.fresh {F:Nat → Prop} {a b c:World} {X:Nat} (h:Upd F a b) (k:Upd (fun j=>j=X) b c) (hX:a.heap.size ≤ X):Upd F a c:=
 ⟨k.os.trans h.os,k.tape.trans h.tape,k.output.trans h.output,Nat.le_trans h.size k.size,fun i hi hf=>(k.block i (Nat.lt_of_lt_of_le hi h.size) (fun e=>by omega)).trans (h.block i hi hf)⟩

structure BodyAt (wr W:World) (rb X:Nat) (r:Rec) (rd:Option (List Int)):Prop where
 upd:Upd (fun k=>k=rb) wr W
 box:RecBox W X r
 rdr:RdRep W rb rd
 far:wr.heap.size ≤ X
 rlt:rb < wr.heap.size

theorem BodyAt.set {wr W W':World} {rb X:Nat} {r r':Rec} {rd:Option (List Int)} (h:BodyAt wr W rb X r rd) (hu:Upd (fun k=>k=X) W W') (hb:RecBox W' X r'):BodyAt wr W' rb X r' rd:=
 ⟨h.upd.fresh hu h.far,hb,h.rdr.upd hu (fun k hk e=>by have:=h.far;have:=h.rlt;omega),h.far,h.rlt⟩

theorem BodyAt.bot {wr W:World} {rb X:Nat} {r:Rec} {rd:Option (List Int)} (h:BodyAt wr W rb X r rd) (b:Int):BodyAt wr (W.setCell ⟨X,2,none⟩ (.int .u8 b)) rb X ⟨r.form,r.top,b,r.lo,r.hi⟩ rd:=h.set (updX W X 2 _) (h.box.setBot b)

theorem BodyAt.lo {wr W:World} {rb X:Nat} {r:Rec} {rd:Option (List Int)} (h:BodyAt wr W rb X r rd) (e:Edge):BodyAt wr ((W.setCell ⟨X,3,none⟩ (.int .u8 e.tag)).setCell ⟨X,4,none⟩ (.int .u32 e.to)) rb X ⟨r.form,r.top,r.bot,e,r.hi⟩ rd:=h.set (updX2 W X 3 4 _ _) (h.box.setLo e)

theorem BodyAt.hi {wr W:World} {rb X:Nat} {r:Rec} {rd:Option (List Int)} (h:BodyAt wr W rb X r rd) (e:Edge):BodyAt wr ((W.setCell ⟨X,5,none⟩ (.int .u8 e.tag)).setCell ⟨X,6,none⟩ (.int .u32 e.to)) rb X ⟨r.form,r.top,r.bot,r.lo,e⟩ rd:=h.set (updX2 W X 5 6 _ _) (h.box.setHi e)

theorem BodyAt.call {wr W W':World} {rb X:Nat} {r:Rec} {rd rd':Option (List Int)} (h:BodyAt wr W rb X r rd) (hr:RdRep W' rb rd') (hu:Upd (fun k=>k=rb) W W'):BodyAt wr W' rb X r rd':=
 ⟨h.upd.trans' hu,h.box.upd hu (fun e=>by have:=h.far;have:=h.rlt;omega),hr,h.far,h.rlt⟩

theorem box_fill {w:World} {X:Nat} {r0 r:Rec} (h:RecBox w X r0):RecBox (((((((w.setCell ⟨X,0,none⟩ (.int .u8 r.form)).setCell ⟨X,1,none⟩ (.int .u8 r.top)).setCell ⟨X,2,none⟩ (.int .u8 r.bot)).setCell ⟨X,3,none⟩ (.int .u8 r.lo.tag)).setCell ⟨X,4,none⟩ (.int .u32 r.lo.to)).setCell ⟨X,5,none⟩ (.int .u8 r.hi.tag)).setCell ⟨X,6,none⟩ (.int .u32 r.hi.to)) X r:=
 ⟨heap_setCell_same _ X 6 _ _ _ (heap_setCell_same _ X 5 _ _ _ (heap_setCell_same _ X 4 _ _ _ (heap_setCell_same _ X 3 _ _ _ (heap_setCell_same _ X 2 _ _ _ (heap_setCell_same _ X 1 _ _ _ (heap_setCell_same _ X 0 _ _ _ h.ex))))))⟩

theorem upd_fill {w:World} {X:Nat} {v0 v1 v2 v3 v4 v5 v6:Value}:Upd (fun k=>k=X) w (((((((w.setCell ⟨X,0,none⟩ v0).setCell ⟨X,1,none⟩ v1).setCell ⟨X,2,none⟩ v2).setCell ⟨X,3,none⟩ v3).setCell ⟨X,4,none⟩ v4).setCell ⟨X,5,none⟩ v5).setCell ⟨X,6,none⟩ v6):=
 ((((((updX w X 0 v0).trans' (updX _ X 1 v1)).trans' (updX _ X 2 v2)).trans' (updX _ X 3 v3)).trans' (updX _ X 4 v4)).trans' (updX _ X 5 v5)).trans' (updX _ X 6 v6)

theorem body_early {wr W w5:World} {rb:Nat} {r0 r:Rec} {rd:Option (List Int)} (hW:Keeps wr W) (hr:RdRep w5 rb rd) (hu:Upd (fun k=>k=rb) W w5) (hb:RecBox w5 wr.heap.size r0) (hlt:rb < wr.heap.size) :
  BodyAt wr (((((((w5.setCell ⟨wr.heap.size,0,none⟩ (.int .u8 r.form)).setCell ⟨wr.heap.size,1,none⟩ (.int .u8 r.top)).setCell ⟨wr.heap.size,2,none⟩ (.int .u8 r.bot)).setCell ⟨wr.heap.size,3,none⟩ (.int .u8 r.lo.tag)).setCell ⟨wr.heap.size,4,none⟩ (.int .u32 r.lo.to)).setCell ⟨wr.heap.size,5,none⟩ (.int .u8 r.hi.tag)).setCell ⟨wr.heap.size,6,none⟩ (.int .u32 r.hi.to)) rb wr.heap.size r rd:=
 BodyAt.set ⟨(hW.upd _).trans' hu,hb,hr,Nat.le_refl _,hlt⟩ upd_fill (box_fill hb)

theorem body_late {wr W w5:World} {rb:Nat} {r:Rec} {rd:Option (List Int)} (hW:Keeps wr W) (hr:RdRep w5 rb rd) (hu:Upd (fun k=>k=rb) W w5) (hlt:rb < wr.heap.size) :
  BodyAt wr (w5.alloc (.cells #[.int .u8 r.form,.int .u8 r.top,.int .u8 r.bot,.int .u8 r.lo.tag,.int .u32 r.lo.to,.int .u8 r.hi.tag,.int .u32 r.hi.to] 87)) rb w5.heap.size r rd:=
 have hk:Keeps w5 (w5.alloc (.cells #[.int .u8 r.form,.int .u8 r.top,.int .u8 r.bot,.int .u8 r.lo.tag,.int .u32 r.lo.to,.int .u8 r.hi.tag,.int .u32 r.hi.to] 87)):=(Keeps.refl w5).alloc _
 ⟨((hW.upd _).trans' hu).trans' (hk.upd _),⟨heap_alloc_new w5 _⟩,hr.keeps hk,Nat.le_trans hW.size hu.size,hlt⟩

theorem info_recT:(Tryz.prog.info? 87).map (fun i=>(i.zero,i.size,i.bytes))=some (some (.agg #[.int .u8 0,.int .u8 0,.int .u8 0,.int .u8 0,.int .u32 0,.int .u8 0,.int .u32 0]),7,20):=by kernel_rfl

theorem txt_edge {base:Nat} {w:World} {tb:Nat} {n f:Int} {perm:List Int} {k:Int} {l:List Rec} {e:Edge} (h:TxtRep base w tb n f perm k l e) (e':Edge):TxtRep base ((w.setCell ⟨tb,5,none⟩ (.int .u8 e'.tag)).setCell ⟨tb,6,none⟩ (.int .u32 e'.to)) tb n f perm k l e':=by
 obtain ⟨⟨pv,lv,h1,h2,h3⟩,h4⟩:=h
 have n2:=TxtRep.row_ne h2 h1 (by decide)
 have n3:=TxtRep.row_ne h3 h1 (by decide)
 have hu:=updX2 w tb 5 6 (.int .u8 e'.tag) (.int .u32 e'.to)
 exact ⟨⟨pv,lv,heap_setCell_same _ tb 6 _ _ _ (heap_setCell_same w tb 5 _ _ _ h1),hu.owns (fun j hj e=>n2 (by rw [hj,e])) h2,hu.owns (fun j hj e=>n3 (by rw [hj,e])) h3⟩,h4⟩

theorem recs_grown {base tb:Nat} {w5 w6:World} {n f k:Int} {pv lv v6:Value} {perm:List Int} {pre:List Rec} {e:Edge} {rd:Option (List Int)} {x:Rec} {cs:Array Value}
  (k1:w5.heap[tb]?=some (.cells #[.int .i64 n,.int .u8 f,pv,.int .i64 k,lv,.int .u8 e.tag,.int .u32 e.to] 100 (0,0))) (k2:w5.ownsRow base 3 1 pv perm.length (perm.map (Value.int .i64))) (k3:w5.ownsRow base 87 7 lv pre.length (pre.flatMap recVals)) (k4:base ≤ tb)
  (hr:RdRep w5 base rd) (hr6:w6.ownsRow base 87 7 v6 (pre.length + 1) (pre.flatMap recVals ++ recVals x)) (hg:(w5.alloc (.cells cs 87)).grownBy w6 lv.ownBlock) :
  w6.cell? ⟨tb,4,none⟩=some lv ∧ (∀ o,w6.frozen? ⟨tb,o,none⟩=false) ∧ RdRep (w6.setCell ⟨tb,4,none⟩ v6) base rd ∧ TxtRep base (w6.setCell ⟨tb,4,none⟩ v6) tb n f perm k (pre ++ [x]) e ∧ Upd (fun j=>base ≤ j) w5 (w6.setCell ⟨tb,4,none⟩ v6):=by
 have np:pv.ownBlock ≠ some tb:=TxtRep.row_ne k2 k1 (by decide)
 have nl:lv.ownBlock ≠ some tb:=TxtRep.row_ne k3 k1 (by decide)
 obtain ⟨ra,rlen,rcap,rer,hrb,-⟩:=hr.ex
 have nrb:lv.ownBlock ≠ some base:=TxtRep.row_ne k3 hrb (by decide)
 have ntb:tb ≠ base:=fun hh=>by rw [hh,hrb] at k1;cases k1
 have hu:Upd (fun j=>lv.ownBlock=some j) w5 w6:=(((Keeps.refl w5).alloc (.cells cs 87)).upd _).trans' ⟨hg.os,hg.tape,hg.output,hg.size,fun i hi hne=>hg.block i hi (fun e=>hne e.symm)⟩
 have h6:=(hu.block tb (lt_of_heap k1) nl).trans k1
 have n6:v6.ownBlock ≠ some tb:=TxtRep.row_ne hr6 h6 (by decide)
 have hs:Upd (fun j=>j=tb) w6 (w6.setCell ⟨tb,4,none⟩ v6):=Upd.setCell (F:=fun j=>j=tb) (p:=⟨tb,4,none⟩) (Upd.refl _ _) (.inl rfl) _
 have k26:w6.ownsRow base 3 1 pv perm.length (perm.map (Value.int .i64)):=hu.owns (fun j hj e=>by
  obtain ⟨c1,h1⟩:=owns_type k2 hj
  obtain ⟨c2,h2⟩:=owns_type k3 e
  rw [h1] at h2
  have:=Option.some.inj h2
  simp at this) k2
 refine ⟨by rw [cell_of_row w6 tb 4 _ _ _ h6];rfl,fun o=>frozen_of_row w6 tb o _ _ h6,?_,⟨⟨pv,v6,heap_setCell_same w6 tb 4 _ _ _ h6,hs.owns (fun j hj e=>np (by rw [hj,e])) k26,?_⟩,k4⟩,?_⟩
 ·refine (hr.upd hu (fun j hj e=>?_)).upd hs (fun j hj e=>by omega)
  have h1:=row_from k3 e
  have h2:j ≠ base:=fun hh=>nrb (by rw [e,hh])
  omega
 ·rw [List.flatMap_append,List.length_append]
  have e1:[x].flatMap recVals=recVals x:=by simp
  rw [e1]
  exact hs.owns (fun j hj e=>n6 (by rw [hj,e])) hr6
 ·exact (hu.mono (fun j _ hj=>row_from k3 hj)).trans' (hs.mono (fun j _ hj=>by omega))

end Go.Proofs.YtfpjogpjocedaaaGreat
