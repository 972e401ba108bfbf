/-
  A row of bools of the call's own; which ids of the document's list are marked.
-/
import Derived.Test.YtiacdpoldgfpbaaGreatPReachA
import Derived.Laws.OwnMore
namespace Go.Proofs.YtiacdpoldgfpbaaGreat
set_option linter.unusedSimpArgs false
set_option linter.unusedVariables false
set_option maxHeartbeats 600000
open Go.RowKit

def BoolsAt (w : World) (blk : Nat) (bs : List Bool) : Prop := w.heap[blk]? = some (.cells (bs.map Value.bool).toArray 4 (0, 0))

theorem BoolsAt.cell {w : World} {blk : Nat} {bs : List Bool} (h : BoolsAt w blk bs) {i : Nat} {b : Bool} (hb : bs[i]? = some b) : w.cell? ⟨blk, i, none⟩ = some (.bool b) := by
  rw [cell_of_row w blk i _ _ _ h]
  simp [hb]

theorem BoolsAt.frozen {w : World} {blk : Nat} {bs : List Bool} (h : BoolsAt w blk bs) (i : Nat) : w.frozen? ⟨blk, i, none⟩ = false := frozen_of_row w blk i _ _ h

theorem BoolsAt.lt {w : World} {blk : Nat} {bs : List Bool} (h : BoolsAt w blk bs) : blk < w.heap.size := lt_of_heap h

theorem BoolsAt.keep {G : Nat → Prop} {w w' : World} {blk : Nat} {bs : List Bool} (h : BoolsAt w blk bs) (hu : Upd G w w') (hg : ¬ G blk) : BoolsAt w' blk bs := (hu.block blk h.lt hg).trans h

theorem BoolsAt.set {w : World} {blk : Nat} {bs : List Bool} (h : BoolsAt w blk bs) (i : Nat) (b : Bool) : BoolsAt (w.setCell ⟨blk, i, none⟩ (.bool b)) blk (bs.set i b) := by
  have e := Go.heap_setCell_same w blk i _ _ (.bool b) h
  unfold BoolsAt
  rw [e]
  simp [List.map_set]

theorem bools_made {w : World} {blk n : Nat} (h : w.ownsRow blk 4 1 (.slice (some ⟨blk, 0, none⟩) n n) n (madeCells (Value.bool false).cells (n * 1)).toList) : BoolsAt w blk (List.replicate n false) := by
  obtain ⟨cur, hcur⟩ := owns_type h (k := blk) rfl
  rcases h.2 with ⟨h0, _⟩ | ⟨g, cap, cur', hv, _, hg, _, _, hs, ht⟩
  · cases h0
  · cases hv
    unfold BoolsAt
    rw [hg]
    have e1 : (madeCells (Value.bool false).cells (n * 1)).toList = List.replicate n (Value.bool false) := by
      show (madeCells #[Value.bool false] (n * 1)).toList = _
      rw [toList_madeCells_one, Nat.mul_one]
    rw [e1] at ht
    have e2 : cur'.toList = List.replicate n (Value.bool false) := by
      rw [← ht, List.take_of_length_le (by simp; omega)]
    congr 2
    rw [List.map_replicate, ← e2]

structure Marked (cs : List (Option Rec)) (roots : List Int) (L : List (Int × Rec)) (bs : List Bool) : Prop where
  len : bs.length = L.length
  from' : ∀ (i : Nat) (p : Int × Rec), L[i]? = some p → bs[i]? = some true → Reaches cs roots p.1
  has : ∀ (id : Int) (D : Nat), id ∈ roots → atI L id = (D : Int) → bs[D]? = some true

theorem set_true {bs : List Bool} {i j : Nat} (h : (bs.set i true)[j]? = some true) : j = i ∨ bs[j]? = some true := by
  rw [List.getElem?_set] at h
  split at h
  · exact .inl (by omega)
  · exact .inr h

theorem true_set {bs : List Bool} {i j : Nat} (h : bs[j]? = some true) : (bs.set i true)[j]? = some true := by
  have hj := (List.getElem?_eq_some_iff.1 h).1
  rw [List.getElem?_set]
  split
  · simp; omega
  · exact h

theorem Marked.mark {cs : List (Option Rec)} {roots : List Int} {L : List (Int × Rec)} {bs : List Bool} (h : Marked cs roots L bs) {i : Nat} {p : Int × Rec} (hp : L[i]? = some p) (hr : Reaches cs roots p.1) : Marked cs roots L (bs.set i true) := by
  refine ⟨by simp [h.len], fun j q hq hj => ?_, fun id D hid hD => true_set (h.has id D hid hD)⟩
  rcases set_true hj with rfl | hj
  · rw [hp] at hq; cases hq; exact hr
  · exact h.from' j q hq hj

theorem Marked.root {cs : List (Option Rec)} {roots : List Int} {L : List (Int × Rec)} {bs : List Bool} (h : Marked cs roots L bs) {x : Int} {D : Nat} {r : Rec} (hD : atI L x = (D : Int)) (hL : L[D]? = some (x, r)) (hl : look cs x ≠ none) :
    Marked cs (roots ++ [x]) L (bs.set D true) := by
  have hlt := (List.getElem?_eq_some_iff.1 hL).1
  refine ⟨by simp [h.len], fun j q hq hj => ?_, fun id D' hid hD' => ?_⟩
  · rcases set_true hj with rfl | hj
    · rw [hL] at hq; cases hq; exact Reaches.root (by simp) hl
    · exact (h.from' j q hq hj).mono (fun y hy => List.mem_append_left _ hy)
  · rcases List.mem_append.1 hid with hid | hid
    · exact true_set (h.has id D' hid hD')
    · rw [List.mem_singleton] at hid
      subst hid
      obtain rfl : D' = D := by omega
      rw [List.getElem?_set]
      simp [h.len, hlt]

theorem Marked.start (cs : List (Option Rec)) (L : List (Int × Rec)) : Marked cs [] L (List.replicate L.length false) := by
  refine ⟨by simp, fun j q _ hj => ?_, fun id D' hid _ => by simp at hid⟩
  rw [List.getElem?_replicate] at hj
  split at hj <;> cases hj

def ShutTo (L : List (Int × Rec)) (bs : List Bool) (k : Nat) : Prop :=
  ∀ (i : Nat) (p : Int × Rec), i < k → L[i]? = some p → bs[i]? = some true → (∀ D : Nat, atI L p.2.lo.to = (D : Int) → bs[D]? = some true) ∧ (∀ D : Nat, atI L p.2.hi.to = (D : Int) → bs[D]? = some true)

theorem Marked.iff {F : Nat → Prop} {w : World} {mb : Nat} {M : St} {L : List (Int × Rec)} (hR : RefRep F w mb M L) {roots : List Int} {bs : List Bool} (h : Marked M.cs roots L bs) (hs : ShutTo L bs L.length)
    {id : Int} {D : Nat} (hD : atI L id = (D : Int)) : bs[D]? = some true ↔ Reaches M.cs roots id := by
  -- the place of an id holds it
  have place : ∀ (id : Int) (D : Nat), atI L id = (D : Int) → ∃ r, look M.cs id = some r ∧ L[D]? = some (id, r) := by
    intro id D hD
    rcases atI_look hR id with ⟨r, hl, D', hLD, _, _, hat⟩ | ⟨_, _, hat⟩
    · rw [hat] at hD
      obtain rfl : D' = D := by omega
      exact ⟨r, hl, hLD⟩
    · rw [hat] at hD; omega
  have at' : ∀ id, look M.cs id ≠ none → ∃ D : Nat, atI L id = (D : Int) := by
    intro id hl
    rcases atI_look hR id with ⟨r, _, D', _, _, _, hat⟩ | ⟨hn, _, _⟩
    · exact ⟨D', hat⟩
    · exact absurd hn hl
  constructor
  · intro hb
    obtain ⟨r, _, hLD⟩ := place id D hD
    exact h.from' D _ hLD hb
  · intro hr
    have key := hr (fun x => ∀ D : Nat, atI L x = (D : Int) → bs[D]? = some true) (fun e he hl D hD => h.has e D he hD) (fun x r hx hl => by
      obtain ⟨X, hX⟩ := at' x (by rw [hl]; simp)
      obtain ⟨r', hl', hLX⟩ := place x X hX
      rw [hl] at hl'
      cases hl'
      have hlt := (List.getElem?_eq_some_iff.1 hLX).1
      have := hs X _ hlt hLX (hx X hX)
      exact ⟨fun _ => this.1, fun _ => this.2⟩)
    exact key D hD

end Go.Proofs.YtiacdpoldgfpbaaGreat

namespace Go.Proofs.YtiacdpoldgfpbaaGreat
set_option linter.unusedSimpArgs false
set_option linter.unusedVariables false
set_option maxHeartbeats 600000
open Go.RowKit

theorem RefRep.size {F : Nat → Prop} {w : World} {mb : Nat} {M : St} {L : List (Int × Rec)} (h : RefRep F w mb M L) : w.cell? ⟨mb, 2, none⟩ = some (.int .u32 (M.cs.length : Int)) := by
  obtain ⟨⟨lv, gv, h1, _⟩, -⟩ := h
  rw [cell_of_row w mb 2 _ _ _ h1]
  rfl

def one (m : Bool) : Nat := if m then 1 else 0

end Go.Proofs.YtiacdpoldgfpbaaGreat
