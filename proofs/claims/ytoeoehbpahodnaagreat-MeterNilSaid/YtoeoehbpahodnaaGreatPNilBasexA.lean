/-
  What no store tells (printed by wip/mk_nil.py).
-/
import Derived.Test.YtoeoehbpahodnaaGreatPRefB
import Derived.BigRegion
namespace Go.Proofs.YtoeoehbpahodnaaGreat
set_option linter.unusedSimpArgs false
set_option linter.unusedVariables false
set_option maxHeartbeats 600000
open Go.RowKit

set_option maxRecDepth 100000 in
theorem nil_may (f l : Int) (v : Edge) (w : World) : Calls Tryz.prog 135 #[.pointer none, .int .u8 f, .agg #[.int .u8 v.tag, .int .u32 v.to], .int .i64 l] w fun e w' => e = .returned (.int .u8 2) ∧ Keeps w w' := by
  go_enter Tryz.func135, Tryz.ntmps135
  go_wp2
  all_goals (go_ret; exact ⟨rfl, by (exact kp)⟩)

set_option maxRecDepth 100000 in
theorem nil_size (f l : Int) (v : Edge) (w : World) : Calls Tryz.prog 65 #[.pointer none, .int .u8 f, .agg #[.int .u8 v.tag, .int .u32 v.to], .int .i64 l] w fun e w' => e = .returned (.tuple #[.int .i64 0, .int .u8 2]) ∧ Keeps w w' := by
  go_enter Tryz.func65, Tryz.ntmps65
  go_wp2_with (go_at_call 135; refine (nil_may _ _ _ _).mono ?_; rintro e w1 ⟨rfl, hb⟩)
  all_goals (go_ret2; exact ⟨rfl, by (exact kp)⟩)

end Go.Proofs.YtoeoehbpahodnaaGreat
