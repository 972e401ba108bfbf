/-
  The walk of ref15.Make, case by case (printed by wip/mk_make2.py).
-/
import Derived.Test.YtnkehgohamjpaaaPViewA
import Derived.BigRegion
import Derived.IntWalk
namespace Go.Proofs.Ytnkehgohamjpaaa
set_option linter.unusedSimpArgs false
set_option linter.unusedVariables false
set_option maxHeartbeats 600000
open Go.RowKit

theorem qsame_calls (x y : Edge) (w : World) :
    Calls Try.prog 77 #[.agg #[.int .u8 x.tag, .int .u32 x.to], .agg #[.int .u8 y.tag, .int .u32 y.to]] w fun e w' => e = .returned (.bool (decide (x = y))) ∧ Keeps w w' := by
  obtain ⟨a, b⟩ := x
  obtain ⟨c, d⟩ := y
  go_enter Try.func77, Try.ntmps77
  go_wp2
  all_goals (go_ret; refine ⟨?_, by (repeat (first | with_reducible exact Keeps.refl _ | with_reducible assumption | with_reducible refine Keeps.alloc ?_ _ | with_reducible refine Keeps.drewN ?_ _ | with_reducible refine Keeps.drew ?_ | refine Keeps.setCell ?_ (by dsimp only; omega) _ | with_reducible refine Keeps.trans ?_ (by assumption)))⟩)
  all_goals simp_all
  all_goals rfl

theorem qsame_true (x y : Edge) (h : x = y) (w : World) : Calls Try.prog 77 #[.agg #[.int .u8 x.tag, .int .u32 x.to], .agg #[.int .u8 y.tag, .int .u32 y.to]] w fun e w' => e = .returned (.bool true) ∧ Keeps w w' := by
  have := qsame_calls x y w
  rwa [decide_eq_true h] at this

theorem qsame_false (x y : Edge) (h : ¬ x = y) (w : World) : Calls Try.prog 77 #[.agg #[.int .u8 x.tag, .int .u32 x.to], .agg #[.int .u8 y.tag, .int .u32 y.to]] w fun e w' => e = .returned (.bool false) ∧ Keeps w w' := by
  have := qsame_calls x y w
  rwa [decide_eq_false h] at this


end Go.Proofs.Ytnkehgohamjpaaa
