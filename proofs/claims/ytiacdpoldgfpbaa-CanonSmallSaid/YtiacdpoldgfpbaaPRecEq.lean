/-
  '==' and '!=' between edges, records and keys.
-/
import Derived.Test.YtiacdpoldgfpbaaPNode
namespace Go.Proofs.Ytiacdpoldgfpbaa
set_option linter.unusedSimpArgs false
set_option linter.unusedVariables false
set_option maxHeartbeats 600000
open Go.RowKit

theorem run_eql_key (x y : Rec) (w : World) : (binOp .eql 144 (.agg #[.int .u8 x.form, .int .u8 x.top, .int .u8 x.bot, .int .u8 x.lo.tag, .int .u32 x.lo.to, .int .u8 x.hi.tag, .int .u32 x.hi.to]) (.agg #[.int .u8 y.form, .int .u8 y.top, .int .u8 y.bot, .int .u8 y.lo.tag, .int .u32 y.lo.to, .int .u8 y.hi.tag, .int .u32 y.hi.to])).run Try.prog w = .ok (.bool (decide (x = y))) w := by
  obtain ⟨a, b, c, ⟨d, e⟩, ⟨f, g⟩⟩ := x
  obtain ⟨a', b', c', ⟨d', e'⟩, ⟨f', g'⟩⟩ := y
  simp only []
  by_cases h1 : a = a'
  · by_cases h2 : b = b'
    · by_cases h3 : c = c'
      · by_cases h4 : d = d'
        · by_cases h5 : e = e'
          · by_cases h6 : f = f'
            · by_cases h7 : g = g'
              · simp [go_sem, h1, h2, h3, h4, h5, h6, h7]
              · simp [go_sem, h1, h2, h3, h4, h5, h6, h7]
            · simp [go_sem, h1, h2, h3, h4, h5, h6]
          · simp [go_sem, h1, h2, h3, h4, h5]
        · simp [go_sem, h1, h2, h3, h4]
      · simp [go_sem, h1, h2, h3]
    · simp [go_sem, h1, h2]
  · simp [go_sem, h1]

theorem run_neq_key (x y : Rec) (w : World) : (binOp .neq 144 (.agg #[.int .u8 x.form, .int .u8 x.top, .int .u8 x.bot, .int .u8 x.lo.tag, .int .u32 x.lo.to, .int .u8 x.hi.tag, .int .u32 x.hi.to]) (.agg #[.int .u8 y.form, .int .u8 y.top, .int .u8 y.bot, .int .u8 y.lo.tag, .int .u32 y.lo.to, .int .u8 y.hi.tag, .int .u32 y.hi.to])).run Try.prog w = .ok (.bool (!decide (x = y))) w := by
  obtain ⟨a, b, c, ⟨d, e⟩, ⟨f, g⟩⟩ := x
  obtain ⟨a', b', c', ⟨d', e'⟩, ⟨f', g'⟩⟩ := y
  simp only []
  by_cases h1 : a = a'
  · by_cases h2 : b = b'
    · by_cases h3 : c = c'
      · by_cases h4 : d = d'
        · by_cases h5 : e = e'
          · by_cases h6 : f = f'
            · by_cases h7 : g = g'
              · simp [go_sem, h1, h2, h3, h4, h5, h6, h7]
              · simp [go_sem, h1, h2, h3, h4, h5, h6, h7]
            · simp [go_sem, h1, h2, h3, h4, h5, h6]
          · simp [go_sem, h1, h2, h3, h4, h5]
        · simp [go_sem, h1, h2, h3, h4]
      · simp [go_sem, h1, h2, h3]
    · simp [go_sem, h1, h2]
  · simp [go_sem, h1]

theorem run_eql_rec (x y : Rec) (w : World) : (binOp .eql 95 (.agg #[.int .u8 x.form, .int .u8 x.top, .int .u8 x.bot, .int .u8 x.lo.tag, .int .u32 x.lo.to, .int .u8 x.hi.tag, .int .u32 x.hi.to]) (.agg #[.int .u8 y.form, .int .u8 y.top, .int .u8 y.bot, .int .u8 y.lo.tag, .int .u32 y.lo.to, .int .u8 y.hi.tag, .int .u32 y.hi.to])).run Try.prog w = .ok (.bool (decide (x = y))) w := by
  obtain ⟨a, b, c, ⟨d, e⟩, ⟨f, g⟩⟩ := x
  obtain ⟨a', b', c', ⟨d', e'⟩, ⟨f', g'⟩⟩ := y
  simp only []
  by_cases h1 : a = a'
  · by_cases h2 : b = b'
    · by_cases h3 : c = c'
      · by_cases h4 : d = d'
        · by_cases h5 : e = e'
          · by_cases h6 : f = f'
            · by_cases h7 : g = g'
              · simp [go_sem, h1, h2, h3, h4, h5, h6, h7]
              · simp [go_sem, h1, h2, h3, h4, h5, h6, h7]
            · simp [go_sem, h1, h2, h3, h4, h5, h6]
          · simp [go_sem, h1, h2, h3, h4, h5]
        · simp [go_sem, h1, h2, h3, h4]
      · simp [go_sem, h1, h2, h3]
    · simp [go_sem, h1, h2]
  · simp [go_sem, h1]

theorem run_neq_rec (x y : Rec) (w : World) : (binOp .neq 95 (.agg #[.int .u8 x.form, .int .u8 x.top, .int .u8 x.bot, .int .u8 x.lo.tag, .int .u32 x.lo.to, .int .u8 x.hi.tag, .int .u32 x.hi.to]) (.agg #[.int .u8 y.form, .int .u8 y.top, .int .u8 y.bot, .int .u8 y.lo.tag, .int .u32 y.lo.to, .int .u8 y.hi.tag, .int .u32 y.hi.to])).run Try.prog w = .ok (.bool (!decide (x = y))) w := by
  obtain ⟨a, b, c, ⟨d, e⟩, ⟨f, g⟩⟩ := x
  obtain ⟨a', b', c', ⟨d', e'⟩, ⟨f', g'⟩⟩ := y
  simp only []
  by_cases h1 : a = a'
  · by_cases h2 : b = b'
    · by_cases h3 : c = c'
      · by_cases h4 : d = d'
        · by_cases h5 : e = e'
          · by_cases h6 : f = f'
            · by_cases h7 : g = g'
              · simp [go_sem, h1, h2, h3, h4, h5, h6, h7]
              · simp [go_sem, h1, h2, h3, h4, h5, h6, h7]
            · simp [go_sem, h1, h2, h3, h4, h5, h6]
          · simp [go_sem, h1, h2, h3, h4, h5]
        · simp [go_sem, h1, h2, h3, h4]
      · simp [go_sem, h1, h2, h3]
    · simp [go_sem, h1, h2]
  · simp [go_sem, h1]

theorem run_eql_edge (x y : Edge) (w : World) : (binOp .eql 24 (.agg #[.int .u8 x.tag, .int .u32 x.to]) (.agg #[.int .u8 y.tag, .int .u32 y.to])).run Try.prog w = .ok (.bool (decide (x = y))) w := by
  obtain ⟨d, e⟩ := x
  obtain ⟨d', e'⟩ := y
  by_cases h4 : d = d'
  · by_cases h5 : e = e'
    · simp [go_sem, h4, h5]
    · simp [go_sem, h4, h5]
  · simp [go_sem, h4]

theorem run_neq_edge (x y : Edge) (w : World) : (binOp .neq 24 (.agg #[.int .u8 x.tag, .int .u32 x.to]) (.agg #[.int .u8 y.tag, .int .u32 y.to])).run Try.prog w = .ok (.bool (!decide (x = y))) w := by
  obtain ⟨d, e⟩ := x
  obtain ⟨d', e'⟩ := y
  by_cases h4 : d = d'
  · by_cases h5 : e = e'
    · simp [go_sem, h4, h5]
    · simp [go_sem, h4, h5]
  · simp [go_sem, h4]

end Go.Proofs.Ytiacdpoldgfpbaa
