/-
  The document's store (ramageref11): how it lies in memory; At, Has.
-/
import Derived.Test.YtiacdpoldgfpbaaPSFindA
namespace Go.Proofs.Ytiacdpoldgfpbaa
set_option linter.unusedSimpArgs false
set_option linter.unusedVariables false
set_option maxHeartbeats 600000
open Go.RowKit

def nodeVals (p : Int × Rec) : List Value := .int .u32 p.1 :: recVals p.2

theorem nodeVals_length (p : Int × Rec) : (nodeVals p).length = 8 := rfl

end Go.Proofs.Ytiacdpoldgfpbaa

namespace Go.Proofs.Ytiacdpoldgfpbaa
set_option linter.unusedSimpArgs false
set_option linter.unusedVariables false
set_option maxHeartbeats 600000
open Go.RowKit

structure RefRep (F : Nat → Prop) (w : World) (mb : Nat) (M : St) (L : List (Int × Rec)) : Prop where
  lies : ∃ lv gv, w.heap[mb]? = some (.cells #[lv, gv, .int .u32 (M.cs.length : Int), .int .i64 M.n, .int .i64 M.room] 112 (0, 0)) ∧
    w.ownsRow 0 119 8 lv L.length (L.flatMap nodeVals) ∧ w.ownsRow 0 22 1 gv M.gone.length (M.gone.map (Value.int .u32)) ∧
    (∀ k, lv.ownBlock = some k → F k) ∧ (∀ k, gv.ownBlock = some k → F k)
  own : F mb
  lt : ∀ k, F k → k < w.heap.size
  wf : M.wf
  mem : ∀ id r, (id, r) ∈ L ↔ look M.cs id = some r
  ids : (L.map Prod.fst).Nodup
  len : (L.length : Int) = M.len
  few : M.cs.length ≤ 1048576
  fit : ∀ p ∈ L, p.2.ok

theorem RefRep.keep {F G : Nat → Prop} {w W : World} {mb : Nat} {M : St} {L : List (Int × Rec)} (h : RefRep F w mb M L) (hu : Upd G w W) (hd : ∀ k, F k → ¬ G k) : RefRep F W mb M L := by
  obtain ⟨⟨lv, gv, h1, h2, h3, h4, h5⟩, a1, a2, a3⟩ := h
  exact ⟨⟨lv, gv, (hu.block mb (lt_of_heap h1) (hd _ a1)).trans h1, hu.owns (fun k hk => hd _ (h4 k hk)) h2, hu.owns (fun k hk => hd _ (h5 k hk)) h3, h4, h5⟩, a1, fun k hk => Nat.lt_of_lt_of_le (a2 k hk) hu.size, a3, by assumption, by assumption, by assumption, by assumption, by assumption⟩

theorem RefRep.keeps {F : Nat → Prop} {w W : World} {mb : Nat} {M : St} {L : List (Int × Rec)} (h : RefRep F w mb M L) (hu : Keeps w W) : RefRep F W mb M L :=
  h.keep (hu.upd (fun _ => False)) (fun _ _ h => h)

theorem RefRep.le {F : Nat → Prop} {w : World} {mb : Nat} {M : St} {L : List (Int × Rec)} (h : RefRep F w mb M L) : L.length ≤ 1048576 := by
  have h1 := h.len
  have h2 := h.wf.full
  have h3 := h.wf.room1
  omega

theorem RefRep.mono {F G : Nat → Prop} {w : World} {mb : Nat} {M : St} {L : List (Int × Rec)} (h : RefRep F w mb M L) (hg : ∀ k, F k → G k) (hl : ∀ k, G k → k < w.heap.size) : RefRep G w mb M L := by
  obtain ⟨⟨lv, gv, h1, h2, h3, h4, h5⟩, a1, a2, a3, a4, a5, a6, a7, a8⟩ := h
  exact ⟨⟨lv, gv, h1, h2, h3, fun k hk => hg k (h4 k hk), fun k hk => hg k (h5 k hk)⟩, hg _ a1, hl, a3, a4, a5, a6, a7, a8⟩

theorem RefRep.cell {F : Nat → Prop} {w : World} {mb : Nat} {M : St} {L : List (Int × Rec)} (h : RefRep F w mb M L) :
    ∃ a cap, w.cell? ⟨mb, 0, none⟩ = some (.slice a L.length cap) ∧ (L.length ≠ 0 → ∃ lb, a = some ⟨lb, 0, none⟩ ∧ F lb ∧
      (∀ i p, L[i]? = some p → ∀ j, j < 8 → w.cell? ⟨lb, i * 8 + j, none⟩ = (nodeVals p)[j]?)) := by
  obtain ⟨⟨lv, gv, h1, h2, h3, h4, h5⟩, -⟩ := h
  obtain ⟨a, cap, rfl, hs⟩ := owns_slice h2
  refine ⟨a, cap, by rw [cell_of_row w mb 0 _ _ _ h1]; rfl, fun hn => ?_⟩
  obtain ⟨lb, rfl⟩ := hs hn
  refine ⟨lb, rfl, h4 lb rfl, fun i c hc j hj => ?_⟩
  have hi := (List.getElem?_eq_some_iff.1 hc).1
  rw [h2.cellAt (i * 8 + j) (by omega)]
  exact flat_get nodeVals 8 nodeVals_length L i j c hc hj

def atI (L : List (Int × Rec)) (id : Int) : Int := if L.findIdx (fun p => decide (p.1 = id)) < L.length then (L.findIdx (fun p => decide (p.1 = id)) : Int) else -1

end Go.Proofs.Ytiacdpoldgfpbaa
