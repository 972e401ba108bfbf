/-
  A row of bools of the call's own; which ids of the document's list are marked.
-/
import Derived.Test.YtiacdpoldgfpbaaPReachA
import Derived.Test.YtiacdpoldgfpbaaPVBase
import Derived.Laws.OwnMore
import Derived.Laws.BytesArg
namespace Go.Proofs.Ytiacdpoldgfpbaa
set_option linter.unusedSimpArgs false
set_option linter.unusedVariables false
set_option maxHeartbeats 600000
open Go.RowKit

def BoolsAt (w : World) (blk : Nat) (bs : List Bool) : Prop := w.heap[blk]? = some (.cells (bs.map Value.bool).toArray 4 (0, 0))

theorem BoolsAt.cell {w : World} {blk : Nat} {bs : List Bool} (h : BoolsAt w blk bs) {i : Nat} {b : Bool} (hb : bs[i]? = some b) : w.cell? ⟨blk, i, none⟩ = some (.bool b) := by
  rw [cell_of_row w blk i _ _ _ h]
  simp [hb]

theorem BoolsAt.frozen {w : World} {blk : Nat} {bs : List Bool} (h : BoolsAt w blk bs) (i : Nat) : w.frozen? ⟨blk, i, none⟩ = false := frozen_of_row w blk i _ _ h

theorem BoolsAt.lt {w : World} {blk : Nat} {bs : List Bool} (h : BoolsAt w blk bs) : blk < w.heap.size := lt_of_heap h

theorem BoolsAt.keep {G : Nat → Prop} {w w' : World} {blk : Nat} {bs : List Bool} (h : BoolsAt w blk bs) (hu : Upd G w w') (hg : ¬ G blk) : BoolsAt w' blk bs := (hu.block blk h.lt hg).trans h

theorem BoolsAt.set {w : World} {blk : Nat} {bs : List Bool} (h : BoolsAt w blk bs) (i : Nat) (b : Bool) : BoolsAt (w.setCell ⟨blk, i, none⟩ (.bool b)) blk (bs.set i b) := by
  have e := Go.heap_setCell_same w blk i _ _ (.bool b) h
  unfold BoolsAt
  rw [e]
  simp [List.map_set]

structure Marked (cs : List (Option Rec)) (roots : List Int) (L : List (Int × Rec)) (bs : List Bool) : Prop where
  len : bs.length = L.length
  from' : ∀ (i : Nat) (p : Int × Rec), L[i]? = some p → bs[i]? = some true → Reaches cs roots p.1
  has : ∀ (id : Int) (D : Nat), id ∈ roots → atI L id = (D : Int) → bs[D]? = some true

theorem set_true {bs : List Bool} {i j : Nat} (h : (bs.set i true)[j]? = some true) : j = i ∨ bs[j]? = some true := by
  rw [List.getElem?_set] at h
  split at h
  · exact .inl (by omega)
  · exact .inr h

theorem true_set {bs : List Bool} {i j : Nat} (h : bs[j]? = some true) : (bs.set i true)[j]? = some true := by
  have hj := (List.getElem?_eq_some_iff.1 h).1
  rw [List.getElem?_set]
  split
  · simp; omega
  · exact h

theorem Marked.root {cs : List (Option Rec)} {roots : List Int} {L : List (Int × Rec)} {bs : List Bool} (h : Marked cs roots L bs) {x : Int} {D : Nat} {r : Rec} (hD : atI L x = (D : Int)) (hL : L[D]? = some (x, r)) (hl : look cs x ≠ none) :
    Marked cs (roots ++ [x]) L (bs.set D true) := by
  have hlt := (List.getElem?_eq_some_iff.1 hL).1
  refine ⟨by simp [h.len], fun j q hq hj => ?_, fun id D' hid hD' => ?_⟩
  · rcases set_true hj with rfl | hj
    · rw [hL] at hq; cases hq; exact Reaches.root (by simp) hl
    · exact (h.from' j q hq hj).mono (fun y hy => List.mem_append_left _ hy)
  · rcases List.mem_append.1 hid with hid | hid
    · exact true_set (h.has id D' hid hD')
    · rw [List.mem_singleton] at hid
      subst hid
      obtain rfl : D' = D := by omega
      rw [List.getElem?_set]
      simp [h.len, hlt]

theorem Marked.start (cs : List (Option Rec)) (L : List (Int × Rec)) : Marked cs [] L (List.replicate L.length false) := by
  refine ⟨by simp, fun j q _ hj => ?_, fun id D' hid _ => by simp at hid⟩
  rw [List.getElem?_replicate] at hj
  split at hj <;> cases hj

end Go.Proofs.Ytiacdpoldgfpbaa

namespace Go.Proofs.Ytiacdpoldgfpbaa
set_option linter.unusedSimpArgs false
set_option linter.unusedVariables false
set_option maxHeartbeats 600000
open Go.RowKit

theorem RefRep.size {F : Nat → Prop} {w : World} {mb : Nat} {M : St} {L : List (Int × Rec)} (h : RefRep F w mb M L) : w.cell? ⟨mb, 2, none⟩ = some (.int .u32 (M.cs.length : Int)) := by
  obtain ⟨⟨lv, gv, h1, _⟩, -⟩ := h
  rw [cell_of_row w mb 2 _ _ _ h1]
  rfl

def one (m : Bool) : Nat := if m then 1 else 0

end Go.Proofs.Ytiacdpoldgfpbaa

namespace Go.Proofs.Ytiacdpoldgfpbaa
set_option linter.unusedSimpArgs false
set_option linter.unusedVariables false
set_option maxHeartbeats 600000
open Go.RowKit

def TabAt (w : World) (B off : Nat) (ts : List Bool) : Prop := ∀ (i : Nat) (b : Bool), ts[i]? = some b → w.cell? ⟨B, off + i, none⟩ = some (.bool b)

theorem TabAt.keeps {w W : World} {B off : Nat} {ts : List Bool} (h : TabAt w B off ts) (hk : Keeps w W) : TabAt W B off ts := fun i b hb => hk.cell (h i b hb)

theorem TabAt.drop {w : World} {B off : Nat} {ts : List Bool} (h : TabAt w B off ts) (n : Nat) : TabAt w B (off + n) (ts.drop n) := fun i b hb => by
  rw [List.getElem?_drop] at hb
  have := h (n + i) b hb
  rwa [← Nat.add_assoc] at this

theorem TabAt.take {w : World} {B off : Nat} {ts : List Bool} (h : TabAt w B off ts) (n : Nat) : TabAt w B off (ts.take n) := fun i b hb => by
  rw [List.getElem?_take] at hb
  split at hb
  · exact h i b hb
  · cases hb

end Go.Proofs.Ytiacdpoldgfpbaa
