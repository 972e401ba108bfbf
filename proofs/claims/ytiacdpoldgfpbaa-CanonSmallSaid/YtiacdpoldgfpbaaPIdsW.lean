/-
  The ids of an arena, one by one: arena.Ids, store.Ids and their closures.
-/
import Derived.Test.YtiacdpoldgfpbaaPRLaw
import Derived.Test.YtiacdpoldgfpbaaPStore
import Derived.RangeFuncBox
import Derived.Shelf.Abstract
import Derived.Shelf.RegionOpen
import Derived.WalkKit
import Derived.OwnWalkIn
import Derived.TacticsInMore
import Derived.LoopNIn
import Derived.LoopIn
namespace Go.Proofs.Ytiacdpoldgfpbaa
set_option linter.unusedSimpArgs false
set_option linter.unusedVariables false
set_option maxHeartbeats 600000
open Go.RowKit Go.Shelf

attribute [local go_sem] Oper.semAt_some

/-- The ids of cells, from one on. -/
def idsFrom : Int → List (Option Rec) → List Int
  | _, [] => []
  | i, some _ :: t => i :: idsFrom (i + 1) t
  | i, none :: t => idsFrom (i + 1) t

/-- The ids of all things, rising. -/
def idsL (cs : List (Option Rec)) : List Int := idsFrom 2 cs

theorem idsFrom_append (i : Int) (a b : List (Option Rec)) : idsFrom i (a ++ b) = idsFrom i a ++ idsFrom (i + a.length) b := by
  induction a generalizing i with
  | nil => simp [idsFrom]
  | cons x a ih =>
    have e : i + 1 + (a.length : Int) = i + ((x :: a).length : Int) := by rw [List.length_cons]; omega
    cases x with
    | none => show idsFrom (i + 1) (a ++ b) = idsFrom (i + 1) a ++ _; rw [ih, e]
    | some r => show i :: idsFrom (i + 1) (a ++ b) = (i :: idsFrom (i + 1) a) ++ _; rw [ih, e]; rfl

theorem idsL_take_some {cs : List (Option Rec)} {k : Nat} {r : Rec} (h : cs[k]? = some (some r)) : idsL (cs.take (k + 1)) = idsL (cs.take k) ++ [(k : Int) + 2] := by
  obtain ⟨hk, he⟩ := List.getElem?_eq_some_iff.1 h
  unfold idsL
  rw [List.take_succ_eq_append_getElem hk, he, idsFrom_append, List.length_take, show min k cs.length = k by omega, show (2 : Int) + (k : Int) = (k : Int) + 2 by omega]
  rfl

theorem idsL_take_none {cs : List (Option Rec)} {k : Nat} (h : cs[k]? = some none) : idsL (cs.take (k + 1)) = idsL (cs.take k) := by
  obtain ⟨hk, he⟩ := List.getElem?_eq_some_iff.1 h
  unfold idsL
  rw [List.take_succ_eq_append_getElem hk, he, idsFrom_append]
  simp [idsFrom]

theorem idsL_prefix (cs : List (Option Rec)) (k : Nat) : idsL (cs.take k) <+: idsL cs := by
  refine ⟨idsFrom (2 + ((cs.take k).length : Int)) (cs.drop k), ?_⟩
  unfold idsL
  rw [← idsFrom_append, List.take_append_drop]

end Go.Proofs.Ytiacdpoldgfpbaa
