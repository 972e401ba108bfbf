/-
  slices.Sort at uint32, part 1: how the row lies, cmp.Less, insertionSortOrdered.
-/
import Derived.Test.YtoeoehbpahodnaaPRefB
import Derived.BigRegion
import Derived.CellFam
import Derived.IntWalk
import Derived.Lib.Tables
import Derived.Lib.BitFns
import Derived.OpenShut
import Derived.Laws.BitsAll
import Derived.Laws.Bits64b
import Derived.Sort.LotC
import Derived.Sort.LotD3
import Derived.RangeFuncStops
import Derived.RangeFuncCalls
import Derived.RangeFuncLeaves
namespace Go.Proofs.Ytoeoehbpahodnaa
set_option linter.unusedSimpArgs false
set_option linter.unusedVariables false
set_option maxHeartbeats 600000
open Go.RowKit Go.Sort

def RowAt (w : World) (blk cap : Nat) (d : Array Int) : Prop :=
  ∃ cur : Array Value, w.heap[blk]? = some (.cells cur 61 (0, 0)) ∧ cur.size = cap ∧ d.size ≤ cap ∧ ∀ t, t < d.size → cur[t]? = some (.int .u32 d[t]!)

structure SRow (w wr : World) (blk cap : Nat) (d : Array Int) : Prop where
  upd : Upd (fun k => k = blk) w wr
  row : RowAt wr blk cap d

theorem RowAt.cell {w : World} {blk cap : Nat} {d : Array Int} (h : RowAt w blk cap d) : ∀ t, t < d.size → w.cell? ⟨blk, t, none⟩ = some (.int .u32 d[t]!) := by
  obtain ⟨cur, h1, _, _, h4⟩ := h
  intro t ht
  rw [cell_of_row w blk t _ _ _ h1]
  exact h4 t ht

theorem RowAt.frozen {w : World} {blk cap : Nat} {d : Array Int} (h : RowAt w blk cap d) : ∀ t, w.frozen? ⟨blk, t, none⟩ = false := by
  obtain ⟨cur, h1, _⟩ := h
  intro t
  unfold World.frozen?
  rw [h1]
  rfl

theorem RowAt.lt {w : World} {blk cap : Nat} {d : Array Int} (h : RowAt w blk cap d) : blk < w.heap.size := by
  obtain ⟨cur, h1, _⟩ := h
  exact lt_of_heap h1

theorem RowAt.keep {G : Nat → Prop} {w w' : World} {blk cap : Nat} {d : Array Int} (h : RowAt w blk cap d) (hu : Upd G w w') (hg : ¬ G blk) : RowAt w' blk cap d := by
  obtain ⟨cur, h1, h2⟩ := h
  exact ⟨cur, (hu.block blk (lt_of_heap h1) hg).trans h1, h2⟩

theorem SRow.drewN {w wr : World} {blk cap : Nat} {d : Array Int} (h : SRow w wr blk cap d) (n : Nat) : SRow w (wr.drewN n) blk cap d := ⟨h.upd.drewN n, h.row⟩

theorem SRow.drew {w wr : World} {blk cap : Nat} {d : Array Int} (h : SRow w wr blk cap d) : SRow w wr.drew blk cap d := ⟨h.upd.drew, h.row⟩

theorem SRow.trans {w w1 w2 : World} {blk cap : Nat} {d d2 : Array Int} (h : SRow w w1 blk cap d) (h2 : SRow w1 w2 blk cap d2) : SRow w w2 blk cap d2 := ⟨h.upd.trans' h2.upd, h2.row⟩

end Go.Proofs.Ytoeoehbpahodnaa

namespace Go.Proofs.Ytoeoehbpahodnaa
set_option linter.unusedSimpArgs false
set_option linter.unusedVariables false
set_option maxHeartbeats 600000
open Go.RowKit Go.Sort

structure BoxAt (w w' : World) (sb : Nat) (n : Int) : Prop where
  upd : Upd (fun k => k = sb) w w'
  cell : w'.cell? ⟨sb, 0, none⟩ = some (.int .i64 n)
  free : w'.frozen? ⟨sb, 0, none⟩ = false

theorem RowAt.box {w w' : World} {blk cap sb : Nat} {n : Int} {d : Array Int} (h : RowAt w blk cap d) (hb : BoxAt w w' sb n) (hne : blk ≠ sb) : RowAt w' blk cap d := h.keep hb.upd hne

theorem BoxAt.trans {w w1 w2 : World} {sb : Nat} {n m : Int} (h : BoxAt w w1 sb n) (h2 : BoxAt w1 w2 sb m) : BoxAt w w2 sb m := ⟨h.upd.trans' h2.upd, h2.cell, h2.free⟩

end Go.Proofs.Ytoeoehbpahodnaa

namespace Go.Proofs.Ytoeoehbpahodnaa
set_option linter.unusedSimpArgs false
set_option linter.unusedVariables false
set_option maxHeartbeats 600000
open Go.RowKit Go.Sort

theorem BoxAt.keeps {w w' : World} {o : Obj} {m : Int} (h : BoxAt (w.alloc o) w' w.heap.size m) : Keeps w w' := by
  have h1 : Upd (fun k => k = w.heap.size) w w' := ((Upd.refl _ w).alloc o).trans' h.upd
  exact h1.keeps (fun k hk => by omega)

end Go.Proofs.Ytoeoehbpahodnaa

namespace Go.Proofs.Ytoeoehbpahodnaa
set_option linter.unusedSimpArgs false
set_option linter.unusedVariables false
set_option maxHeartbeats 600000
open Go.RowKit Go.Sort

def Leaves (a b a' b' : Nat) (d dk : Array Int) : Prop :=
  ∀ R, PermIn a' b' dk R → SortedIn ltInt a' b' R → PermIn a b d R ∧ SortedIn ltInt a b R

theorem Leaves.refl (a b : Nat) (d : Array Int) : Leaves a b a b d d := fun _ h1 h2 => ⟨h1, h2⟩

theorem Leaves.perm {a b a' b' : Nat} {d dk d2 : Array Int} (h : Leaves a b a' b' d dk) (hp : PermIn a' b' dk d2) : Leaves a b a' b' d d2 :=
  fun R h1 h2 => h R (permIn_trans _ _ _ _ _ hp h1) h2

theorem SRow.keeps {w w1 w2 : World} {blk cap : Nat} {d : Array Int} (h : SRow w w1 blk cap d) (hk : Keeps w1 w2) : SRow w w2 blk cap d := h.trans ⟨Keeps.upd hk _, h.row.keep (Keeps.upd hk (fun _ => False)) (fun h => h)⟩

end Go.Proofs.Ytoeoehbpahodnaa

namespace Go.Proofs.Ytoeoehbpahodnaa
set_option linter.unusedSimpArgs false
set_option linter.unusedVariables false
set_option maxHeartbeats 600000
open Go.RowKit

def Abide (B c : Nat) (J : List Int → World → Prop) : Prop := ∀ p A A', J p A → Upd (fun k => B ≤ k ∧ k < B + c) A A' → J p A'

def Iter (P : Program) (g : Nat) (lb : Array Value) (xs : List Int) (c : Nat) (St : World → Prop) : Prop :=
  ∀ (l : Nat) (J Jx : List Int → World → Prop) (W : World), (∀ p A, J p A → St A) → Abide W.heap.size c J → Abide W.heap.size c Jx →
    (∀ m pre x A, J pre A → pre ++ [x] <+: xs → W.heap.size + c ≤ A.heap.size → YieldAt Fence.wide m P l #[.int .u32 x] A fun e A' =>
      (∀ k, W.heap.size ≤ k → k < W.heap.size + c → A'.heap[k]? = A.heap[k]?) ∧ A.heap.size ≤ A'.heap.size ∧ ((e = .returned (.bool true) ∧ J (pre ++ [x]) A') ∨ (e = .returned (.bool false) ∧ Jx (pre ++ [x]) A'))) →
    J [] W → ∀ n, CallsIn Fence.wide n P g (#[.func (.yield l) #[] #[]] ++ lb) W fun e W' => (∃ v, e = .returned v) ∧ (J xs W' ∨ ∃ pre, pre <+: xs ∧ Jx pre W')

theorem Iter.later {P : Program} {g : Nat} {lb : Array Value} {xs : List Int} {c : Nat} {St St' : World → Prop} (h : Iter P g lb xs c St) (hs : ∀ A, St' A → St A) : Iter P g lb xs c St' :=
  fun l J Jx W hJ h1 h2 hr h0 n => h l J Jx W (fun p A hp => hs A (hJ p A hp)) h1 h2 hr h0 n

end Go.Proofs.Ytoeoehbpahodnaa
