/-
  The walk of ref14.Make, case by case (printed by wip/mk_make2.py).
-/
import Derived.Test.YtnkehgohamjpaaaGreatPViewA
import Derived.BigRegion
import Derived.IntWalk
namespace Go.Proofs.YtnkehgohamjpaaaGreat
set_option linter.unusedSimpArgs false
set_option linter.unusedVariables false
set_option maxHeartbeats 600000
open Go.RowKit

theorem csame_calls (x y : Edge) (w : World) :
    Calls Tryz.prog 96 #[.agg #[.int .u8 x.tag, .int .u32 x.to], .agg #[.int .u8 y.tag, .int .u32 y.to]] w fun e w' => e = .returned (.bool (decide (x = y))) ∧ Keeps w w' := by
  obtain ⟨a, b⟩ := x
  obtain ⟨c, d⟩ := y
  go_enter Tryz.func96, Tryz.ntmps96
  go_wp2
  all_goals (go_ret; refine ⟨?_, by (repeat (first | with_reducible exact Keeps.refl _ | with_reducible assumption | with_reducible refine Keeps.alloc ?_ _ | with_reducible refine Keeps.drewN ?_ _ | with_reducible refine Keeps.drew ?_ | refine Keeps.setCell ?_ (by dsimp only; omega) _ | with_reducible refine Keeps.trans ?_ (by assumption)))⟩)
  all_goals simp_all
  all_goals rfl

theorem csame_true (x y : Edge) (h : x = y) (w : World) : Calls Tryz.prog 96 #[.agg #[.int .u8 x.tag, .int .u32 x.to], .agg #[.int .u8 y.tag, .int .u32 y.to]] w fun e w' => e = .returned (.bool true) ∧ Keeps w w' := by
  have := csame_calls x y w
  rwa [decide_eq_true h] at this

theorem csame_false (x y : Edge) (h : ¬ x = y) (w : World) : Calls Tryz.prog 96 #[.agg #[.int .u8 x.tag, .int .u32 x.to], .agg #[.int .u8 y.tag, .int .u32 y.to]] w fun e w' => e = .returned (.bool false) ∧ Keeps w w' := by
  have := csame_calls x y w
  rwa [decide_eq_false h] at this


end Go.Proofs.YtnkehgohamjpaaaGreat

/-
  The walk of ref15.Make, case by case (printed by wip/mk_make2.py).
-/
namespace Go.Proofs.YtnkehgohamjpaaaGreat
set_option linter.unusedSimpArgs false
set_option linter.unusedVariables false
set_option maxHeartbeats 600000
open Go.RowKit

theorem qsame_calls (x y : Edge) (w : World) :
    Calls Tryz.prog 97 #[.agg #[.int .u8 x.tag, .int .u32 x.to], .agg #[.int .u8 y.tag, .int .u32 y.to]] w fun e w' => e = .returned (.bool (decide (x = y))) ∧ Keeps w w' := by
  obtain ⟨a, b⟩ := x
  obtain ⟨c, d⟩ := y
  go_enter Tryz.func97, Tryz.ntmps97
  go_wp2
  all_goals (go_ret; refine ⟨?_, by (repeat (first | with_reducible exact Keeps.refl _ | with_reducible assumption | with_reducible refine Keeps.alloc ?_ _ | with_reducible refine Keeps.drewN ?_ _ | with_reducible refine Keeps.drew ?_ | refine Keeps.setCell ?_ (by dsimp only; omega) _ | with_reducible refine Keeps.trans ?_ (by assumption)))⟩)
  all_goals simp_all
  all_goals rfl

theorem qsame_true (x y : Edge) (h : x = y) (w : World) : Calls Tryz.prog 97 #[.agg #[.int .u8 x.tag, .int .u32 x.to], .agg #[.int .u8 y.tag, .int .u32 y.to]] w fun e w' => e = .returned (.bool true) ∧ Keeps w w' := by
  have := qsame_calls x y w
  rwa [decide_eq_true h] at this

theorem qsame_false (x y : Edge) (h : ¬ x = y) (w : World) : Calls Tryz.prog 97 #[.agg #[.int .u8 x.tag, .int .u32 x.to], .agg #[.int .u8 y.tag, .int .u32 y.to]] w fun e w' => e = .returned (.bool false) ∧ Keeps w w' := by
  have := qsame_calls x y w
  rwa [decide_eq_false h] at this


end Go.Proofs.YtnkehgohamjpaaaGreat

/-
  The walk of ref12.Make, case by case (printed by wip/mk_make2.py).
-/
namespace Go.Proofs.YtnkehgohamjpaaaGreat
set_option linter.unusedSimpArgs false
set_option linter.unusedVariables false
set_option maxHeartbeats 600000
open Go.RowKit


end Go.Proofs.YtnkehgohamjpaaaGreat

/-
  The walk of ref13.Make, case by case (printed by wip/mk_make2.py).
-/
namespace Go.Proofs.YtnkehgohamjpaaaGreat
set_option linter.unusedSimpArgs false
set_option linter.unusedVariables false
set_option maxHeartbeats 600000
open Go.RowKit


end Go.Proofs.YtnkehgohamjpaaaGreat
