/-
  '==' and '!=' between edges, records and keys.
-/
import Derived.Test.YtiacdpoldgfpbaaGreatPFindA
namespace Go.Proofs.YtiacdpoldgfpbaaGreat
set_option linter.unusedSimpArgs false
set_option linter.unusedVariables false
set_option maxHeartbeats 600000
open Go.RowKit

theorem run_neq_edge (x y : Edge) (w : World) : (binOp .neq 31 (.agg #[.int .u8 x.tag, .int .u32 x.to]) (.agg #[.int .u8 y.tag, .int .u32 y.to])).run Tryz.prog w = .ok (.bool (!decide (x = y))) w := by
  obtain ⟨d, e⟩ := x
  obtain ⟨d', e'⟩ := y
  by_cases h4 : d = d'
  · by_cases h5 : e = e'
    · simp [go_sem, h4, h5]
    · simp [go_sem, h4, h5]
  · simp [go_sem, h4]

end Go.Proofs.YtiacdpoldgfpbaaGreat
