/-
  The document's store (ramageref11): how it lies in memory; At, Has.
-/
import Derived.Test.YtiacdpoldgfpbaaGreatPSFindA
import Derived.RegionTactic
import Derived.RangeFuncStops
import Derived.RangeFuncCalls
import Derived.RangeFuncLeaves
import Derived.RangeFuncBox
import Derived.Shelf.Abstract
import Derived.Shelf.RegionOpen
import Derived.OwnWalkIn
import Derived.TacticsInMore
import Derived.LoopNIn
import Derived.LoopIn
namespace Go.Proofs.YtiacdpoldgfpbaaGreat
set_option linter.unusedSimpArgs false
set_option linter.unusedVariables false
set_option maxHeartbeats 600000
open Go.RowKit

def nodeVals (p : Int × Rec) : List Value := .int .u32 p.1 :: recVals p.2

theorem nodeVals_length (p : Int × Rec) : (nodeVals p).length = 8 := rfl

end Go.Proofs.YtiacdpoldgfpbaaGreat

namespace Go.Proofs.YtiacdpoldgfpbaaGreat
set_option linter.unusedSimpArgs false
set_option linter.unusedVariables false
set_option maxHeartbeats 600000
open Go.RowKit

structure RefRep (F : Nat → Prop) (w : World) (mb : Nat) (M : St) (L : List (Int × Rec)) : Prop where
  lies : ∃ lv gv, w.heap[mb]? = some (.cells #[lv, gv, .int .u32 (M.cs.length : Int), .int .i64 M.n, .int .i64 M.room] 103 (0, 0)) ∧
    w.ownsRow 0 110 8 lv L.length (L.flatMap nodeVals) ∧ w.ownsRow 0 29 1 gv M.gone.length (M.gone.map (Value.int .u32)) ∧
    (∀ k, lv.ownBlock = some k → F k) ∧ (∀ k, gv.ownBlock = some k → F k)
  own : F mb
  lt : ∀ k, F k → k < w.heap.size
  wf : M.wf
  mem : ∀ id r, (id, r) ∈ L ↔ look M.cs id = some r
  ids : (L.map Prod.fst).Nodup
  len : (L.length : Int) = M.len
  few : M.cs.length ≤ 1048576
  fit : ∀ p ∈ L, p.2.ok

theorem RefRep.keep {F G : Nat → Prop} {w W : World} {mb : Nat} {M : St} {L : List (Int × Rec)} (h : RefRep F w mb M L) (hu : Upd G w W) (hd : ∀ k, F k → ¬ G k) : RefRep F W mb M L := by
  obtain ⟨⟨lv, gv, h1, h2, h3, h4, h5⟩, a1, a2, a3⟩ := h
  exact ⟨⟨lv, gv, (hu.block mb (lt_of_heap h1) (hd _ a1)).trans h1, hu.owns (fun k hk => hd _ (h4 k hk)) h2, hu.owns (fun k hk => hd _ (h5 k hk)) h3, h4, h5⟩, a1, fun k hk => Nat.lt_of_lt_of_le (a2 k hk) hu.size, a3, by assumption, by assumption, by assumption, by assumption, by assumption⟩

theorem RefRep.keeps {F : Nat → Prop} {w W : World} {mb : Nat} {M : St} {L : List (Int × Rec)} (h : RefRep F w mb M L) (hu : Keeps w W) : RefRep F W mb M L :=
  h.keep (hu.upd (fun _ => False)) (fun _ _ h => h)

theorem RefRep.mono {F G : Nat → Prop} {w : World} {mb : Nat} {M : St} {L : List (Int × Rec)} (h : RefRep F w mb M L) (hg : ∀ k, F k → G k) (hl : ∀ k, G k → k < w.heap.size) : RefRep G w mb M L := by
  obtain ⟨⟨lv, gv, h1, h2, h3, h4, h5⟩, a1, a2, a3, a4, a5, a6, a7, a8⟩ := h
  exact ⟨⟨lv, gv, h1, h2, h3, fun k hk => hg k (h4 k hk), fun k hk => hg k (h5 k hk)⟩, hg _ a1, hl, a3, a4, a5, a6, a7, a8⟩

theorem RefRep.cell {F : Nat → Prop} {w : World} {mb : Nat} {M : St} {L : List (Int × Rec)} (h : RefRep F w mb M L) :
    ∃ a cap, w.cell? ⟨mb, 0, none⟩ = some (.slice a L.length cap) ∧ (L.length ≠ 0 → ∃ lb, a = some ⟨lb, 0, none⟩ ∧ F lb ∧
      (∀ i p, L[i]? = some p → ∀ j, j < 8 → w.cell? ⟨lb, i * 8 + j, none⟩ = (nodeVals p)[j]?)) := by
  obtain ⟨⟨lv, gv, h1, h2, h3, h4, h5⟩, -⟩ := h
  obtain ⟨a, cap, rfl, hs⟩ := owns_slice h2
  refine ⟨a, cap, by rw [cell_of_row w mb 0 _ _ _ h1]; rfl, fun hn => ?_⟩
  obtain ⟨lb, rfl⟩ := hs hn
  refine ⟨lb, rfl, h4 lb rfl, fun i c hc j hj => ?_⟩
  have hi := (List.getElem?_eq_some_iff.1 hc).1
  rw [h2.cellAt (i * 8 + j) (by omega)]
  exact flat_get nodeVals 8 nodeVals_length L i j c hc hj

def atI (L : List (Int × Rec)) (id : Int) : Int := if L.findIdx (fun p => decide (p.1 = id)) < L.length then (L.findIdx (fun p => decide (p.1 = id)) : Int) else -1

theorem atI_look {F : Nat → Prop} {w : World} {mb : Nat} {M : St} {L : List (Int × Rec)} (h : RefRep F w mb M L) (id : Int) :
    (∃ r, look M.cs id = some r ∧ ∃ D : Nat, L[D]? = some (id, r) ∧ D = L.findIdx (fun p => decide (p.1 = id)) ∧ D < L.length ∧ atI L id = (D : Int)) ∨ (look M.cs id = none ∧ ¬ L.findIdx (fun p => decide (p.1 = id)) < L.length ∧ atI L id = -1) := by
  by_cases hlt : L.findIdx (fun p => decide (p.1 = id)) < L.length
  · left
    have h1 : (L[L.findIdx (fun p => decide (p.1 = id))]).1 = id := by simpa using List.findIdx_getElem (w := hlt)
    have h2 := (h.mem id (L[L.findIdx (fun p => decide (p.1 = id))]).2).1 (by
        have := List.getElem_mem hlt
        rwa [show L[L.findIdx (fun p => decide (p.1 = id))] = (id, (L[L.findIdx (fun p => decide (p.1 = id))]).2) from Prod.ext h1 rfl] at this)
    refine ⟨_, h2, _, ?_, rfl, hlt, by unfold atI; rw [if_pos hlt]⟩
    rw [List.getElem?_eq_getElem hlt]
    exact congrArg some (Prod.ext h1 rfl)
  · right
    refine ⟨?_, hlt, by unfold atI; rw [if_neg hlt]⟩
    cases hl : look M.cs id with
    | none => rfl
    | some r =>
      exact (hlt (List.findIdx_lt_length.2 ⟨_, (h.mem id r).2 hl, by simp⟩)).elim

end Go.Proofs.YtiacdpoldgfpbaaGreat

namespace Go.Proofs.YtiacdpoldgfpbaaGreat
set_option linter.unusedSimpArgs false
set_option linter.unusedVariables false
set_option maxHeartbeats 600000
open Go.RowKit

theorem Keeps.frz {w w' : World} (h : Keeps w w') {a : Addr} (hl : a.block < w.heap.size) (hc : w.frozen? a = false) : w'.frozen? a = false := (Below.frozen h hl).trans hc

end Go.Proofs.YtiacdpoldgfpbaaGreat

namespace Go.Proofs.YtiacdpoldgfpbaaGreat
set_option linter.unusedSimpArgs false
set_option linter.unusedVariables false
set_option maxHeartbeats 600000
open Go.RowKit

theorem eql_same (x y : Edge) (h : x = y) (W : World) : (binOp .eql 31 (.agg #[.int .u8 x.tag, .int .u32 x.to]) (.agg #[.int .u8 y.tag, .int .u32 y.to])).run Tryz.prog W = .ok (.bool true) W := by rw [run_eql_edge]; simp [h]

theorem eql_other (x y : Edge) (h : x ≠ y) (W : World) : (binOp .eql 31 (.agg #[.int .u8 x.tag, .int .u32 x.to]) (.agg #[.int .u8 y.tag, .int .u32 y.to])).run Tryz.prog W = .ok (.bool false) W := by rw [run_eql_edge]; simp [h]

end Go.Proofs.YtiacdpoldgfpbaaGreat

namespace Go.Proofs.YtiacdpoldgfpbaaGreat
set_option linter.unusedSimpArgs false
set_option linter.unusedVariables false
set_option maxHeartbeats 600000
open Go.RowKit

def Abide (B c : Nat) (J : List Int → World → Prop) : Prop := ∀ p A A', J p A → Upd (fun k => B ≤ k ∧ k < B + c) A A' → J p A'

def Iter (P : Program) (g : Nat) (lb : Array Value) (xs : List Int) (c : Nat) (St : World → Prop) : Prop :=
  ∀ (l : Nat) (J Jx : List Int → World → Prop) (W : World), (∀ p A, J p A → St A) → Abide W.heap.size c J → Abide W.heap.size c Jx →
    (∀ m pre x A, J pre A → pre ++ [x] <+: xs → W.heap.size + c ≤ A.heap.size → YieldAt Fence.wide m P l #[.int .u32 x] A fun e A' =>
      (∀ k, W.heap.size ≤ k → k < W.heap.size + c → A'.heap[k]? = A.heap[k]?) ∧ A.heap.size ≤ A'.heap.size ∧ ((e = .returned (.bool true) ∧ J (pre ++ [x]) A') ∨ (e = .returned (.bool false) ∧ Jx (pre ++ [x]) A'))) →
    J [] W → ∀ n, CallsIn Fence.wide n P g (#[.func (.yield l) #[] #[]] ++ lb) W fun e W' => (∃ v, e = .returned v) ∧ (J xs W' ∨ ∃ pre, pre <+: xs ∧ Jx pre W')

theorem Iter.later {P : Program} {g : Nat} {lb : Array Value} {xs : List Int} {c : Nat} {St St' : World → Prop} (h : Iter P g lb xs c St) (hs : ∀ A, St' A → St A) : Iter P g lb xs c St' :=
  fun l J Jx W hJ h1 h2 hr h0 n => h l J Jx W (fun p A hp => hs A (hJ p A hp)) h1 h2 hr h0 n

end Go.Proofs.YtiacdpoldgfpbaaGreat

namespace Go.Proofs.YtiacdpoldgfpbaaGreat
set_option linter.unusedSimpArgs false
set_option linter.unusedVariables false
set_option maxHeartbeats 600000

theorem rising_nodup {a : List Int} (h : a.Pairwise (· < ·)) : a.Nodup := h.imp (fun hab e => by omega)

end Go.Proofs.YtiacdpoldgfpbaaGreat
