/-
  slices.Sort at uint32, part 1: how the row lies, cmp.Less, insertionSortOrdered.
-/
import Derived.Test.YtiacdpoldgfpbaaPSFindA
import Derived.BigRegion
import Derived.CellFam
import Derived.IntWalk
namespace Go.Proofs.Ytiacdpoldgfpbaa
set_option linter.unusedSimpArgs false
set_option linter.unusedVariables false
set_option maxHeartbeats 600000
open Go.RowKit Go.Sort

def RowAt (w : World) (blk cap : Nat) (d : Array Int) : Prop :=
  ∃ cur : Array Value, w.heap[blk]? = some (.cells cur 22 (0, 0)) ∧ cur.size = cap ∧ d.size ≤ cap ∧ ∀ t, t < d.size → cur[t]? = some (.int .u32 d[t]!)

structure SRow (w wr : World) (blk cap : Nat) (d : Array Int) : Prop where
  upd : Upd (fun k => k = blk) w wr
  row : RowAt wr blk cap d

theorem RowAt.cell {w : World} {blk cap : Nat} {d : Array Int} (h : RowAt w blk cap d) : ∀ t, t < d.size → w.cell? ⟨blk, t, none⟩ = some (.int .u32 d[t]!) := by
  obtain ⟨cur, h1, _, _, h4⟩ := h
  intro t ht
  rw [cell_of_row w blk t _ _ _ h1]
  exact h4 t ht

theorem RowAt.frozen {w : World} {blk cap : Nat} {d : Array Int} (h : RowAt w blk cap d) : ∀ t, w.frozen? ⟨blk, t, none⟩ = false := by
  obtain ⟨cur, h1, _⟩ := h
  intro t
  unfold World.frozen?
  rw [h1]
  rfl

theorem RowAt.lt {w : World} {blk cap : Nat} {d : Array Int} (h : RowAt w blk cap d) : blk < w.heap.size := by
  obtain ⟨cur, h1, _⟩ := h
  exact lt_of_heap h1

theorem RowAt.keep {G : Nat → Prop} {w w' : World} {blk cap : Nat} {d : Array Int} (h : RowAt w blk cap d) (hu : Upd G w w') (hg : ¬ G blk) : RowAt w' blk cap d := by
  obtain ⟨cur, h1, h2⟩ := h
  exact ⟨cur, (hu.block blk (lt_of_heap h1) hg).trans h1, h2⟩

theorem SRow.drewN {w wr : World} {blk cap : Nat} {d : Array Int} (h : SRow w wr blk cap d) (n : Nat) : SRow w (wr.drewN n) blk cap d := ⟨h.upd.drewN n, h.row⟩

theorem SRow.drew {w wr : World} {blk cap : Nat} {d : Array Int} (h : SRow w wr blk cap d) : SRow w wr.drew blk cap d := ⟨h.upd.drew, h.row⟩

theorem SRow.trans {w w1 w2 : World} {blk cap : Nat} {d d2 : Array Int} (h : SRow w w1 blk cap d) (h2 : SRow w1 w2 blk cap d2) : SRow w w2 blk cap d2 := ⟨h.upd.trans' h2.upd, h2.row⟩

end Go.Proofs.Ytiacdpoldgfpbaa

namespace Go.Proofs.Ytiacdpoldgfpbaa
set_option linter.unusedSimpArgs false
set_option linter.unusedVariables false
set_option maxHeartbeats 600000
open Go.RowKit Go.Sort

structure BoxAt (w w' : World) (sb : Nat) (n : Int) : Prop where
  upd : Upd (fun k => k = sb) w w'
  cell : w'.cell? ⟨sb, 0, none⟩ = some (.int .i64 n)
  free : w'.frozen? ⟨sb, 0, none⟩ = false

theorem BoxAt.trans {w w1 w2 : World} {sb : Nat} {n m : Int} (h : BoxAt w w1 sb n) (h2 : BoxAt w1 w2 sb m) : BoxAt w w2 sb m := ⟨h.upd.trans' h2.upd, h2.cell, h2.free⟩

end Go.Proofs.Ytiacdpoldgfpbaa

namespace Go.Proofs.Ytiacdpoldgfpbaa
set_option linter.unusedSimpArgs false
set_option linter.unusedVariables false
set_option maxHeartbeats 600000
open Go.RowKit Go.Sort

theorem BoxAt.keeps {w w' : World} {o : Obj} {m : Int} (h : BoxAt (w.alloc o) w' w.heap.size m) : Keeps w w' := by
  have h1 : Upd (fun k => k = w.heap.size) w w' := ((Upd.refl _ w).alloc o).trans' h.upd
  exact h1.keeps (fun k hk => by omega)

end Go.Proofs.Ytiacdpoldgfpbaa
