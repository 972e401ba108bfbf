/-
  What no store tells (printed by wip/mk_nil.py).
-/
import Derived.Test.YtimffidpbcflaaaMakeBase
import Derived.BigRegion
namespace Go.Proofs.Ytimffidpbcflaaa
set_option linter.unusedSimpArgs false
set_option linter.unusedVariables false
set_option maxHeartbeats 600000
open Go.RowKit

set_option maxRecDepth 100000 in
theorem nil_leads (f l : Int) (v : Edge) (w : World) : Calls Try.prog 21 #[.pointer none, .int .u8 f, .agg #[.int .u8 v.tag, .int .u32 v.to], .int .i64 l] w fun e w' => e = .returned (.bool false) ∧ Keeps w w' := by
  go_enter Try.func21, Try.ntmps21
  go_wp2_with fail
  go_region
  all_goals go_wp2
  all_goals (go_ret; exact ⟨rfl, by (repeat (first | with_reducible exact Keeps.refl _ | with_reducible assumption | with_reducible refine Keeps.alloc ?_ _ | with_reducible refine Keeps.drewN ?_ _ | with_reducible refine Keeps.drew ?_ | refine Keeps.setCell ?_ (by dsimp only; omega) _ | with_reducible refine Keeps.trans ?_ (by assumption)))⟩)

set_option maxRecDepth 100000 in
theorem nil_tmake (l : Int) (lo hi : Edge) (w : World) : Calls Try.prog 19 #[.pointer none, .int .i64 l, .agg #[.int .u8 lo.tag, .int .u32 lo.to], .agg #[.int .u8 hi.tag, .int .u32 hi.to]] w fun e w' => e = .returned (.tuple #[.agg #[.int .u8 0, .int .u32 0], .int .u8 2]) ∧ Keeps w w' := by
  go_enter Try.func19, Try.ntmps19
  go_wp2
  all_goals refine bodyPost_ret (v := .tuple #[.agg #[.int .u8 0, .int .u32 0], .int .u8 2]) (by simp [results, Try.results19, go_sem]) rfl ⟨rfl, by (repeat (first | with_reducible exact Keeps.refl _ | with_reducible assumption | with_reducible refine Keeps.alloc ?_ _ | with_reducible refine Keeps.drewN ?_ _ | with_reducible refine Keeps.drew ?_ | refine Keeps.setCell ?_ (by dsimp only; omega) _ | with_reducible refine Keeps.trans ?_ (by assumption)))⟩

set_option maxRecDepth 100000 in
theorem nil_tview (v : Edge) (l : Int) (w : World) : Calls Try.prog 18 #[.pointer none, .agg #[.int .u8 v.tag, .int .u32 v.to], .int .i64 l] w fun e w' => e = .returned (.tuple #[.agg #[.int .u8 0, .int .u32 0], .agg #[.int .u8 0, .int .u32 0], .int .u8 2]) ∧ Keeps w w' := by
  go_enter Try.func18, Try.ntmps18
  go_wp2
  go_region
  all_goals go_wp2
  all_goals refine bodyPost_ret (v := .tuple #[.agg #[.int .u8 0, .int .u32 0], .agg #[.int .u8 0, .int .u32 0], .int .u8 2]) (by simp [results, Try.results18, go_sem]) rfl ⟨rfl, by (repeat (first | with_reducible exact Keeps.refl _ | with_reducible assumption | with_reducible refine Keeps.alloc ?_ _ | with_reducible refine Keeps.drewN ?_ _ | with_reducible refine Keeps.drew ?_ | refine Keeps.setCell ?_ (by dsimp only; omega) _ | with_reducible refine Keeps.trans ?_ (by assumption)))⟩

set_option maxRecDepth 100000 in
theorem nil_tright (v : Edge) (l : Int) (w : World) : Calls Try.prog 16 #[.pointer none, .agg #[.int .u8 v.tag, .int .u32 v.to], .int .i64 l] w fun e w' => e = .returned (.bool false) ∧ Keeps w w' := by
  go_enter Try.func16, Try.ntmps16
  go_wp2_with (go_at_call 21; refine (nil_leads _ _ _ _).mono ?_; rintro e w1 ⟨rfl, hb⟩)
  all_goals (go_ret; exact ⟨rfl, by (repeat (first | with_reducible exact Keeps.refl _ | with_reducible assumption | with_reducible refine Keeps.alloc ?_ _ | with_reducible refine Keeps.drewN ?_ _ | with_reducible refine Keeps.drew ?_ | refine Keeps.setCell ?_ (by dsimp only; omega) _ | with_reducible refine Keeps.trans ?_ (by assumption)))⟩)

set_option maxRecDepth 100000 in
theorem nil_cmake (l : Int) (lo hi : Edge) (w : World) : Calls Try.prog 40 #[.pointer none, .int .i64 l, .agg #[.int .u8 lo.tag, .int .u32 lo.to], .agg #[.int .u8 hi.tag, .int .u32 hi.to]] w fun e w' => e = .returned (.tuple #[.agg #[.int .u8 0, .int .u32 0], .int .u8 2]) ∧ Keeps w w' := by
  go_enter Try.func40, Try.ntmps40
  go_wp2
  all_goals refine bodyPost_ret (v := .tuple #[.agg #[.int .u8 0, .int .u32 0], .int .u8 2]) (by simp [results, Try.results40, go_sem]) rfl ⟨rfl, by (repeat (first | with_reducible exact Keeps.refl _ | with_reducible assumption | with_reducible refine Keeps.alloc ?_ _ | with_reducible refine Keeps.drewN ?_ _ | with_reducible refine Keeps.drew ?_ | refine Keeps.setCell ?_ (by dsimp only; omega) _ | with_reducible refine Keeps.trans ?_ (by assumption)))⟩

set_option maxRecDepth 100000 in
theorem nil_cview (v : Edge) (l : Int) (w : World) : Calls Try.prog 39 #[.pointer none, .agg #[.int .u8 v.tag, .int .u32 v.to], .int .i64 l] w fun e w' => e = .returned (.tuple #[.agg #[.int .u8 0, .int .u32 0], .agg #[.int .u8 0, .int .u32 0], .int .u8 2]) ∧ Keeps w w' := by
  go_enter Try.func39, Try.ntmps39
  go_wp2
  go_region
  all_goals go_wp2
  all_goals refine bodyPost_ret (v := .tuple #[.agg #[.int .u8 0, .int .u32 0], .agg #[.int .u8 0, .int .u32 0], .int .u8 2]) (by simp [results, Try.results39, go_sem]) rfl ⟨rfl, by (repeat (first | with_reducible exact Keeps.refl _ | with_reducible assumption | with_reducible refine Keeps.alloc ?_ _ | with_reducible refine Keeps.drewN ?_ _ | with_reducible refine Keeps.drew ?_ | refine Keeps.setCell ?_ (by dsimp only; omega) _ | with_reducible refine Keeps.trans ?_ (by assumption)))⟩

set_option maxRecDepth 100000 in
theorem nil_cright (v : Edge) (l : Int) (w : World) : Calls Try.prog 37 #[.pointer none, .agg #[.int .u8 v.tag, .int .u32 v.to], .int .i64 l] w fun e w' => e = .returned (.bool false) ∧ Keeps w w' := by
  go_enter Try.func37, Try.ntmps37
  go_wp2_with (go_at_call 21; refine (nil_leads _ _ _ _).mono ?_; rintro e w1 ⟨rfl, hb⟩)
  all_goals (go_ret; exact ⟨rfl, by (repeat (first | with_reducible exact Keeps.refl _ | with_reducible assumption | with_reducible refine Keeps.alloc ?_ _ | with_reducible refine Keeps.drewN ?_ _ | with_reducible refine Keeps.drew ?_ | refine Keeps.setCell ?_ (by dsimp only; omega) _ | with_reducible refine Keeps.trans ?_ (by assumption)))⟩)

set_option maxRecDepth 100000 in
theorem nil_qmake (l : Int) (lo hi : Edge) (w : World) : Calls Try.prog 35 #[.pointer none, .int .i64 l, .agg #[.int .u8 lo.tag, .int .u32 lo.to], .agg #[.int .u8 hi.tag, .int .u32 hi.to]] w fun e w' => e = .returned (.tuple #[.agg #[.int .u8 0, .int .u32 0], .int .u8 2]) ∧ Keeps w w' := by
  go_enter Try.func35, Try.ntmps35
  go_wp2
  all_goals refine bodyPost_ret (v := .tuple #[.agg #[.int .u8 0, .int .u32 0], .int .u8 2]) (by simp [results, Try.results35, go_sem]) rfl ⟨rfl, by (repeat (first | with_reducible exact Keeps.refl _ | with_reducible assumption | with_reducible refine Keeps.alloc ?_ _ | with_reducible refine Keeps.drewN ?_ _ | with_reducible refine Keeps.drew ?_ | refine Keeps.setCell ?_ (by dsimp only; omega) _ | with_reducible refine Keeps.trans ?_ (by assumption)))⟩

set_option maxRecDepth 100000 in
theorem nil_qview (v : Edge) (l : Int) (w : World) : Calls Try.prog 34 #[.pointer none, .agg #[.int .u8 v.tag, .int .u32 v.to], .int .i64 l] w fun e w' => e = .returned (.tuple #[.agg #[.int .u8 0, .int .u32 0], .agg #[.int .u8 0, .int .u32 0], .int .u8 2]) ∧ Keeps w w' := by
  go_enter Try.func34, Try.ntmps34
  go_wp2
  go_region
  all_goals go_wp2
  all_goals refine bodyPost_ret (v := .tuple #[.agg #[.int .u8 0, .int .u32 0], .agg #[.int .u8 0, .int .u32 0], .int .u8 2]) (by simp [results, Try.results34, go_sem]) rfl ⟨rfl, by (repeat (first | with_reducible exact Keeps.refl _ | with_reducible assumption | with_reducible refine Keeps.alloc ?_ _ | with_reducible refine Keeps.drewN ?_ _ | with_reducible refine Keeps.drew ?_ | refine Keeps.setCell ?_ (by dsimp only; omega) _ | with_reducible refine Keeps.trans ?_ (by assumption)))⟩

set_option maxRecDepth 100000 in
theorem nil_qright (v : Edge) (l : Int) (w : World) : Calls Try.prog 32 #[.pointer none, .agg #[.int .u8 v.tag, .int .u32 v.to], .int .i64 l] w fun e w' => e = .returned (.bool false) ∧ Keeps w w' := by
  go_enter Try.func32, Try.ntmps32
  go_wp2_with (go_at_call 21; refine (nil_leads _ _ _ _).mono ?_; rintro e w1 ⟨rfl, hb⟩)
  all_goals (go_ret; exact ⟨rfl, by (repeat (first | with_reducible exact Keeps.refl _ | with_reducible assumption | with_reducible refine Keeps.alloc ?_ _ | with_reducible refine Keeps.drewN ?_ _ | with_reducible refine Keeps.drew ?_ | refine Keeps.setCell ?_ (by dsimp only; omega) _ | with_reducible refine Keeps.trans ?_ (by assumption)))⟩)

set_option maxRecDepth 100000 in
theorem nil_kmake (f : Int) (l : Int) (lo hi : Edge) (w : World) : Calls Try.prog 55 #[.pointer none, .int .u8 f, .int .i64 l, .agg #[.int .u8 lo.tag, .int .u32 lo.to], .agg #[.int .u8 hi.tag, .int .u32 hi.to]] w fun e w' => e = .returned (.tuple #[.agg #[.int .u8 0, .int .u32 0], .int .u8 2]) ∧ Keeps w w' := by
  go_enter Try.func55, Try.ntmps55
  go_wp2
  all_goals refine bodyPost_ret (v := .tuple #[.agg #[.int .u8 0, .int .u32 0], .int .u8 2]) (by simp [results, Try.results55, go_sem]) rfl ⟨rfl, by (repeat (first | with_reducible exact Keeps.refl _ | with_reducible assumption | with_reducible refine Keeps.alloc ?_ _ | with_reducible refine Keeps.drewN ?_ _ | with_reducible refine Keeps.drew ?_ | refine Keeps.setCell ?_ (by dsimp only; omega) _ | with_reducible refine Keeps.trans ?_ (by assumption)))⟩

set_option maxRecDepth 100000 in
theorem nil_kview (f : Int) (v : Edge) (l : Int) (w : World) : Calls Try.prog 56 #[.pointer none, .int .u8 f, .agg #[.int .u8 v.tag, .int .u32 v.to], .int .i64 l] w fun e w' => e = .returned (.tuple #[.agg #[.int .u8 0, .int .u32 0], .agg #[.int .u8 0, .int .u32 0], .int .u8 2]) ∧ Keeps w w' := by
  go_enter Try.func56, Try.ntmps56
  go_wp2
  go_region
  all_goals go_wp2
  all_goals refine bodyPost_ret (v := .tuple #[.agg #[.int .u8 0, .int .u32 0], .agg #[.int .u8 0, .int .u32 0], .int .u8 2]) (by simp [results, Try.results56, go_sem]) rfl ⟨rfl, by (repeat (first | with_reducible exact Keeps.refl _ | with_reducible assumption | with_reducible refine Keeps.alloc ?_ _ | with_reducible refine Keeps.drewN ?_ _ | with_reducible refine Keeps.drew ?_ | refine Keeps.setCell ?_ (by dsimp only; omega) _ | with_reducible refine Keeps.trans ?_ (by assumption)))⟩

set_option maxRecDepth 100000 in
theorem nil_kright (f : Int) (v : Edge) (l : Int) (w : World) : Calls Try.prog 58 #[.pointer none, .int .u8 f, .agg #[.int .u8 v.tag, .int .u32 v.to], .int .i64 l] w fun e w' => e = .returned (.bool false) ∧ Keeps w w' := by
  go_enter Try.func58, Try.ntmps58
  go_wp2_with (go_at_call 21; refine (nil_leads _ _ _ _).mono ?_; rintro e w1 ⟨rfl, hb⟩)
  all_goals (go_ret; exact ⟨rfl, by (repeat (first | with_reducible exact Keeps.refl _ | with_reducible assumption | with_reducible refine Keeps.alloc ?_ _ | with_reducible refine Keeps.drewN ?_ _ | with_reducible refine Keeps.drew ?_ | refine Keeps.setCell ?_ (by dsimp only; omega) _ | with_reducible refine Keeps.trans ?_ (by assumption)))⟩)

set_option maxRecDepth 100000 in
theorem nil_may (f l : Int) (v : Edge) (w : World) : Calls Try.prog 84 #[.pointer none, .int .u8 f, .agg #[.int .u8 v.tag, .int .u32 v.to], .int .i64 l] w fun e w' => e = .returned (.int .u8 2) ∧ Keeps w w' := by
  go_enter Try.func84, Try.ntmps84
  go_wp2
  all_goals (go_ret; exact ⟨rfl, by (repeat (first | with_reducible exact Keeps.refl _ | with_reducible assumption | with_reducible refine Keeps.alloc ?_ _ | with_reducible refine Keeps.drewN ?_ _ | with_reducible refine Keeps.drew ?_ | refine Keeps.setCell ?_ (by dsimp only; omega) _ | with_reducible refine Keeps.trans ?_ (by assumption)))⟩)

set_option maxRecDepth 100000 in
theorem nil_holds (f l x : Int) (v : Edge) (w : World) : Calls Try.prog 50 #[.pointer none, .int .u8 f, .agg #[.int .u8 v.tag, .int .u32 v.to], .int .i64 l, .int .u16 x] w fun e w' => e = .returned (.tuple #[.bool false, .int .u8 2]) ∧ Keeps w w' := by
  go_enter Try.func50, Try.ntmps50
  go_wp2_with (go_at_call 84; refine (nil_may _ _ _ _).mono ?_; rintro e w1 ⟨rfl, hb⟩)
  all_goals (go_ret2; exact ⟨rfl, by (repeat (first | with_reducible exact Keeps.refl _ | with_reducible assumption | with_reducible refine Keeps.alloc ?_ _ | with_reducible refine Keeps.drewN ?_ _ | with_reducible refine Keeps.drew ?_ | refine Keeps.setCell ?_ (by dsimp only; omega) _ | with_reducible refine Keeps.trans ?_ (by assumption)))⟩)

set_option maxRecDepth 100000 in
theorem nil_size (f l : Int) (v : Edge) (w : World) : Calls Try.prog 51 #[.pointer none, .int .u8 f, .agg #[.int .u8 v.tag, .int .u32 v.to], .int .i64 l] w fun e w' => e = .returned (.tuple #[.int .i64 0, .int .u8 2]) ∧ Keeps w w' := by
  go_enter Try.func51, Try.ntmps51
  go_wp2_with (go_at_call 84; refine (nil_may _ _ _ _).mono ?_; rintro e w1 ⟨rfl, hb⟩)
  all_goals (go_ret2; exact ⟨rfl, by (repeat (first | with_reducible exact Keeps.refl _ | with_reducible assumption | with_reducible refine Keeps.alloc ?_ _ | with_reducible refine Keeps.drewN ?_ _ | with_reducible refine Keeps.drew ?_ | refine Keeps.setCell ?_ (by dsimp only; omega) _ | with_reducible refine Keeps.trans ?_ (by assumption)))⟩)

set_option maxRecDepth 100000 in
theorem nil_cube (f l x y : Int) (w : World) : Calls Try.prog 57 #[.pointer none, .int .u8 f, .int .i64 l, .int .u16 x, .int .u16 y] w fun e w' => e = .returned (.tuple #[.agg #[.int .u8 0, .int .u32 0], .int .u8 2]) ∧ Keeps w w' := by
  go_enter Try.func57, Try.ntmps57
  go_wp2
  all_goals refine bodyPost_ret (v := .tuple #[.agg #[.int .u8 0, .int .u32 0], .int .u8 2]) (by simp [results, Try.results57, go_sem]) rfl ⟨rfl, by (repeat (first | with_reducible exact Keeps.refl _ | with_reducible assumption | with_reducible refine Keeps.alloc ?_ _ | with_reducible refine Keeps.drewN ?_ _ | with_reducible refine Keeps.drew ?_ | refine Keeps.setCell ?_ (by dsimp only; omega) _ | with_reducible refine Keeps.trans ?_ (by assumption)))⟩

end Go.Proofs.Ytimffidpbcflaaa
