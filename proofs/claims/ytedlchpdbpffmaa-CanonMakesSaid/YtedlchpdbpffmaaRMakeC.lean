/-
  The walk of ref14.Make, case by case (printed by wip/mk_make2.py).
-/
import Derived.Test.YtedlchpdbpffmaaMakeBase
import Derived.BigRegion
import Derived.IntWalk
namespace Go.Proofs.Ytedlchpdbpffmaa
set_option linter.unusedSimpArgs false
set_option linter.unusedVariables false
set_option maxHeartbeats 600000
open Go.RowKit

theorem csame_calls (x y : Edge) (w : World) :
    Calls Try.prog 81 #[.agg #[.int .u8 x.tag, .int .u32 x.to], .agg #[.int .u8 y.tag, .int .u32 y.to]] w fun e w' => e = .returned (.bool (decide (x = y))) ∧ Keeps w w' := by
  obtain ⟨a, b⟩ := x
  obtain ⟨c, d⟩ := y
  go_enter Try.func81, Try.ntmps81
  go_wp2
  all_goals (go_ret; refine ⟨?_, by (repeat (first | with_reducible exact Keeps.refl _ | with_reducible assumption | with_reducible refine Keeps.alloc ?_ _ | with_reducible refine Keeps.drewN ?_ _ | with_reducible refine Keeps.drew ?_ | refine Keeps.setCell ?_ (by dsimp only; omega) _ | with_reducible refine Keeps.trans ?_ (by assumption)))⟩)
  all_goals simp_all
  all_goals rfl

theorem csame_true (x y : Edge) (h : x = y) (w : World) : Calls Try.prog 81 #[.agg #[.int .u8 x.tag, .int .u32 x.to], .agg #[.int .u8 y.tag, .int .u32 y.to]] w fun e w' => e = .returned (.bool true) ∧ Keeps w w' := by
  have := csame_calls x y w
  rwa [decide_eq_true h] at this

theorem csame_false (x y : Edge) (h : ¬ x = y) (w : World) : Calls Try.prog 81 #[.agg #[.int .u8 x.tag, .int .u32 x.to], .agg #[.int .u8 y.tag, .int .u32 y.to]] w fun e w' => e = .returned (.bool false) ∧ Keeps w w' := by
  have := csame_calls x y w
  rwa [decide_eq_false h] at this

set_option maxRecDepth 100000 in
theorem rcmake_neg (sb : Nat) (l n : Int) (lo hi : Edge) (w : World) (hn : n ≤ 16) (hsb : sb < w.heap.size) (c3 : w.cell? ⟨sb, 3, none⟩ = some (.int .i64 n))
    (h0 : l < 0)
    : Calls Try.prog 32 #[.pointer (some ⟨sb, 0, none⟩), .int .i64 l, .agg #[.int .u8 lo.tag, .int .u32 lo.to], .agg #[.int .u8 hi.tag, .int .u32 hi.to]] w fun e w' => e = .returned (.tuple #[.agg #[.int .u8 0, .int .u32 0], .int .i64 3]) ∧ Keeps w w' := by
  have hsb1 : sb < w.heap.size + 1 := by omega
  have hsb2 : sb < w.heap.size + 1 + 1 := by omega
  go_enter Try.func32, Try.ntmps32
  go_wp2_with fail
  all_goals refine bodyPost_ret (v := .tuple #[.agg #[.int .u8 0, .int .u32 0], .int .i64 3]) (by simp [results, Try.results32, go_sem]) rfl ⟨rfl, by (repeat (first | with_reducible exact Keeps.refl _ | with_reducible assumption | with_reducible refine Keeps.alloc ?_ _ | with_reducible refine Keeps.drewN ?_ _ | with_reducible refine Keeps.drew ?_ | refine Keeps.setCell ?_ (by dsimp only; omega) _ | with_reducible refine Keeps.trans ?_ (by assumption)))⟩


set_option maxRecDepth 100000 in
theorem rcmake_big (sb : Nat) (l n : Int) (lo hi : Edge) (w : World) (hn : n ≤ 16) (hsb : sb < w.heap.size) (c3 : w.cell? ⟨sb, 3, none⟩ = some (.int .i64 n))
    (h0 : 0 ≤ l) (h1 : n ≤ l)
    : Calls Try.prog 32 #[.pointer (some ⟨sb, 0, none⟩), .int .i64 l, .agg #[.int .u8 lo.tag, .int .u32 lo.to], .agg #[.int .u8 hi.tag, .int .u32 hi.to]] w fun e w' => e = .returned (.tuple #[.agg #[.int .u8 0, .int .u32 0], .int .i64 3]) ∧ Keeps w w' := by
  have hsb1 : sb < w.heap.size + 1 := by omega
  have hsb2 : sb < w.heap.size + 1 + 1 := by omega
  go_enter Try.func32, Try.ntmps32
  go_wp2_with fail
  all_goals refine bodyPost_ret (v := .tuple #[.agg #[.int .u8 0, .int .u32 0], .int .i64 3]) (by simp [results, Try.results32, go_sem]) rfl ⟨rfl, by (repeat (first | with_reducible exact Keeps.refl _ | with_reducible assumption | with_reducible refine Keeps.alloc ?_ _ | with_reducible refine Keeps.drewN ?_ _ | with_reducible refine Keeps.drew ?_ | refine Keeps.setCell ?_ (by dsimp only; omega) _ | with_reducible refine Keeps.trans ?_ (by assumption)))⟩


set_option maxRecDepth 100000 in
theorem rcmake_lo (sb : Nat) (l n : Int) (lo hi : Edge) (w : World) (hn : n ≤ 16) (hsb : sb < w.heap.size) (c3 : w.cell? ⟨sb, 3, none⟩ = some (.int .i64 n))
    (h0 : 0 ≤ l) (h1 : l < n)
    (hlo : ∀ W, Keeps w W → Calls Try.prog 71 #[.pointer (some ⟨sb, 0, none⟩), .int .u8 3, .agg #[.int .u8 lo.tag, .int .u32 lo.to], .int .i64 (l + 1)] W fun e w' => e = .returned (.bool false) ∧ Keeps W w')
    : Calls Try.prog 32 #[.pointer (some ⟨sb, 0, none⟩), .int .i64 l, .agg #[.int .u8 lo.tag, .int .u32 lo.to], .agg #[.int .u8 hi.tag, .int .u32 hi.to]] w fun e w' => e = .returned (.tuple #[.agg #[.int .u8 0, .int .u32 0], .int .i64 1]) ∧ Keeps w w' := by
  have hsb1 : sb < w.heap.size + 1 := by omega
  have hsb2 : sb < w.heap.size + 1 + 1 := by omega
  have HLo := Lib.hid hlo
  clear hlo
  go_enter Try.func32, Try.ntmps32
  go_wp2_with fail
  (go_at_call 71; refine (HLo.out _ (by (repeat (first | with_reducible exact Keeps.refl _ | with_reducible assumption | with_reducible refine Keeps.alloc ?_ _ | with_reducible refine Keeps.drewN ?_ _ | with_reducible refine Keeps.drew ?_ | refine Keeps.setCell ?_ (by dsimp only; omega) _ | with_reducible refine Keeps.trans ?_ (by assumption))))).mono ?_; rintro e w1 ⟨rfl, hb⟩; have hsz := hb.size; simp only [World.size_alloc] at hsz; have hz0 : w.heap.size < w1.heap.size := (by omega); have hz1 : w.heap.size + 1 < w1.heap.size := (by omega); have hz2 : w.heap.size + 2 < w1.heap.size := (by omega); have y0 := hb.cell (a := ⟨w.heap.size, 0, none⟩) (v := .int .u8 lo.tag) (by simp [go_sem]); have y1 := hb.cell (a := ⟨w.heap.size, 1, none⟩) (v := .int .u32 lo.to) (by simp [go_sem]); have x0 := hb.cell (a := ⟨w.heap.size + 1, 0, none⟩) (v := .int .u8 hi.tag) (by simp [go_sem]); have x1 := hb.cell (a := ⟨w.heap.size + 1, 1, none⟩) (v := .int .u32 hi.to) (by simp [go_sem]); have z0 := hb.cell (a := ⟨w.heap.size + 2, 0, none⟩) (v := .int .u8 0) (by simp [go_sem]); have z1 := hb.cell (a := ⟨w.heap.size + 2, 1, none⟩) (v := .int .u32 0) (by simp [go_sem]); have zf := fun o : Nat => hb.frz (a := ⟨w.heap.size + 2, o, none⟩) (by simp [go_sem]) (by simp [go_sem]); have hk : Keeps w w1 := (by (repeat (first | with_reducible exact Keeps.refl _ | with_reducible assumption | with_reducible refine Keeps.alloc ?_ _ | with_reducible refine Keeps.drewN ?_ _ | with_reducible refine Keeps.drew ?_ | refine Keeps.setCell ?_ (by dsimp only; omega) _ | with_reducible refine Keeps.trans ?_ (by assumption)))))
  go_wp2_with fail
  all_goals refine bodyPost_ret (v := .tuple #[.agg #[.int .u8 0, .int .u32 0], .int .i64 1]) (by simp [results, Try.results32, go_sem, hz2, z0, z1]) rfl ⟨rfl, by (repeat (first | with_reducible exact Keeps.refl _ | with_reducible assumption | with_reducible refine Keeps.alloc ?_ _ | with_reducible refine Keeps.drewN ?_ _ | with_reducible refine Keeps.drew ?_ | refine Keeps.setCell ?_ (by dsimp only; omega) _ | with_reducible refine Keeps.trans ?_ (by assumption)))⟩


set_option maxRecDepth 100000 in
theorem rcmake_hi (sb : Nat) (l n : Int) (lo hi : Edge) (w : World) (hn : n ≤ 16) (hsb : sb < w.heap.size) (c3 : w.cell? ⟨sb, 3, none⟩ = some (.int .i64 n))
    (h0 : 0 ≤ l) (h1 : l < n)
    (hlo : ∀ W, Keeps w W → Calls Try.prog 71 #[.pointer (some ⟨sb, 0, none⟩), .int .u8 3, .agg #[.int .u8 lo.tag, .int .u32 lo.to], .int .i64 (l + 1)] W fun e w' => e = .returned (.bool true) ∧ Keeps W w')
    (hhi : ∀ W, Keeps w W → Calls Try.prog 71 #[.pointer (some ⟨sb, 0, none⟩), .int .u8 3, .agg #[.int .u8 hi.tag, .int .u32 hi.to], .int .i64 (l + 1)] W fun e w' => e = .returned (.bool false) ∧ Keeps W w')
    : Calls Try.prog 32 #[.pointer (some ⟨sb, 0, none⟩), .int .i64 l, .agg #[.int .u8 lo.tag, .int .u32 lo.to], .agg #[.int .u8 hi.tag, .int .u32 hi.to]] w fun e w' => e = .returned (.tuple #[.agg #[.int .u8 0, .int .u32 0], .int .i64 1]) ∧ Keeps w w' := by
  have hsb1 : sb < w.heap.size + 1 := by omega
  have hsb2 : sb < w.heap.size + 1 + 1 := by omega
  have HLo := Lib.hid hlo
  clear hlo
  have HHi := Lib.hid hhi
  clear hhi
  go_enter Try.func32, Try.ntmps32
  go_wp2_with fail
  (go_at_call 71; refine (HLo.out _ (by (repeat (first | with_reducible exact Keeps.refl _ | with_reducible assumption | with_reducible refine Keeps.alloc ?_ _ | with_reducible refine Keeps.drewN ?_ _ | with_reducible refine Keeps.drew ?_ | refine Keeps.setCell ?_ (by dsimp only; omega) _ | with_reducible refine Keeps.trans ?_ (by assumption))))).mono ?_; rintro e w1 ⟨rfl, hb⟩; have hsz := hb.size; simp only [World.size_alloc] at hsz; have hz0 : w.heap.size < w1.heap.size := (by omega); have hz1 : w.heap.size + 1 < w1.heap.size := (by omega); have hz2 : w.heap.size + 2 < w1.heap.size := (by omega); have y0 := hb.cell (a := ⟨w.heap.size, 0, none⟩) (v := .int .u8 lo.tag) (by simp [go_sem]); have y1 := hb.cell (a := ⟨w.heap.size, 1, none⟩) (v := .int .u32 lo.to) (by simp [go_sem]); have x0 := hb.cell (a := ⟨w.heap.size + 1, 0, none⟩) (v := .int .u8 hi.tag) (by simp [go_sem]); have x1 := hb.cell (a := ⟨w.heap.size + 1, 1, none⟩) (v := .int .u32 hi.to) (by simp [go_sem]); have z0 := hb.cell (a := ⟨w.heap.size + 2, 0, none⟩) (v := .int .u8 0) (by simp [go_sem]); have z1 := hb.cell (a := ⟨w.heap.size + 2, 1, none⟩) (v := .int .u32 0) (by simp [go_sem]); have zf := fun o : Nat => hb.frz (a := ⟨w.heap.size + 2, o, none⟩) (by simp [go_sem]) (by simp [go_sem]); have hk : Keeps w w1 := (by (repeat (first | with_reducible exact Keeps.refl _ | with_reducible assumption | with_reducible refine Keeps.alloc ?_ _ | with_reducible refine Keeps.drewN ?_ _ | with_reducible refine Keeps.drew ?_ | refine Keeps.setCell ?_ (by dsimp only; omega) _ | with_reducible refine Keeps.trans ?_ (by assumption)))))
  go_wp2_with fail
  (go_at_call 71; refine (HHi.out _ (by (repeat (first | with_reducible exact Keeps.refl _ | with_reducible assumption | with_reducible refine Keeps.alloc ?_ _ | with_reducible refine Keeps.drewN ?_ _ | with_reducible refine Keeps.drew ?_ | refine Keeps.setCell ?_ (by dsimp only; omega) _ | with_reducible refine Keeps.trans ?_ (by assumption))))).mono ?_; rintro e w1 ⟨rfl, hb⟩; have hsz := hb.size; have zf := fun o : Nat => hb.frz (a := ⟨w.heap.size + 2, o, none⟩) (by dsimp only; omega) (zf o); have y0 := hb.cell y0; have y1 := hb.cell y1; have x0 := hb.cell x0; have x1 := hb.cell x1; have z0 := hb.cell z0; have z1 := hb.cell z1; have hz0 : w.heap.size < w1.heap.size := (by omega); have hz1 : w.heap.size + 1 < w1.heap.size := (by omega); have hz2 : w.heap.size + 2 < w1.heap.size := (by omega); have hk : Keeps w w1 := (by (repeat (first | with_reducible exact Keeps.refl _ | with_reducible assumption | with_reducible refine Keeps.alloc ?_ _ | with_reducible refine Keeps.drewN ?_ _ | with_reducible refine Keeps.drew ?_ | refine Keeps.setCell ?_ (by dsimp only; omega) _ | with_reducible refine Keeps.trans ?_ (by assumption)))))
  go_wp2_with fail
  all_goals refine bodyPost_ret (v := .tuple #[.agg #[.int .u8 0, .int .u32 0], .int .i64 1]) (by simp [results, Try.results32, go_sem, hz2, z0, z1]) rfl ⟨rfl, by (repeat (first | with_reducible exact Keeps.refl _ | with_reducible assumption | with_reducible refine Keeps.alloc ?_ _ | with_reducible refine Keeps.drewN ?_ _ | with_reducible refine Keeps.drew ?_ | refine Keeps.setCell ?_ (by dsimp only; omega) _ | with_reducible refine Keeps.trans ?_ (by assumption)))⟩


set_option maxRecDepth 100000 in
theorem rcmake_same (sb : Nat) (l n : Int) (lo hi : Edge) (w : World) (hn : n ≤ 16) (hsb : sb < w.heap.size) (c3 : w.cell? ⟨sb, 3, none⟩ = some (.int .i64 n))
    (h0 : 0 ≤ l) (h1 : l < n)
    (hlo : ∀ W, Keeps w W → Calls Try.prog 71 #[.pointer (some ⟨sb, 0, none⟩), .int .u8 3, .agg #[.int .u8 lo.tag, .int .u32 lo.to], .int .i64 (l + 1)] W fun e w' => e = .returned (.bool true) ∧ Keeps W w')
    (hhi : ∀ W, Keeps w W → Calls Try.prog 71 #[.pointer (some ⟨sb, 0, none⟩), .int .u8 3, .agg #[.int .u8 hi.tag, .int .u32 hi.to], .int .i64 (l + 1)] W fun e w' => e = .returned (.bool true) ∧ Keeps W w')
    (hs : lo = hi)
    : Calls Try.prog 32 #[.pointer (some ⟨sb, 0, none⟩), .int .i64 l, .agg #[.int .u8 lo.tag, .int .u32 lo.to], .agg #[.int .u8 hi.tag, .int .u32 hi.to]] w fun e w' => e = .returned (.tuple #[.agg #[.int .u8 lo.tag, .int .u32 lo.to], .int .i64 0]) ∧ Keeps w w' := by
  have hsb1 : sb < w.heap.size + 1 := by omega
  have hsb2 : sb < w.heap.size + 1 + 1 := by omega
  have HLo := Lib.hid hlo
  clear hlo
  have HHi := Lib.hid hhi
  clear hhi
  have HSm := Lib.hid (csame_true lo hi hs)
  have HS := Lib.hid hs
  clear hs
  go_enter Try.func32, Try.ntmps32
  go_wp2_with fail
  (go_at_call 71; refine (HLo.out _ (by (repeat (first | with_reducible exact Keeps.refl _ | with_reducible assumption | with_reducible refine Keeps.alloc ?_ _ | with_reducible refine Keeps.drewN ?_ _ | with_reducible refine Keeps.drew ?_ | refine Keeps.setCell ?_ (by dsimp only; omega) _ | with_reducible refine Keeps.trans ?_ (by assumption))))).mono ?_; rintro e w1 ⟨rfl, hb⟩; have hsz := hb.size; simp only [World.size_alloc] at hsz; have hz0 : w.heap.size < w1.heap.size := (by omega); have hz1 : w.heap.size + 1 < w1.heap.size := (by omega); have hz2 : w.heap.size + 2 < w1.heap.size := (by omega); have y0 := hb.cell (a := ⟨w.heap.size, 0, none⟩) (v := .int .u8 lo.tag) (by simp [go_sem]); have y1 := hb.cell (a := ⟨w.heap.size, 1, none⟩) (v := .int .u32 lo.to) (by simp [go_sem]); have x0 := hb.cell (a := ⟨w.heap.size + 1, 0, none⟩) (v := .int .u8 hi.tag) (by simp [go_sem]); have x1 := hb.cell (a := ⟨w.heap.size + 1, 1, none⟩) (v := .int .u32 hi.to) (by simp [go_sem]); have z0 := hb.cell (a := ⟨w.heap.size + 2, 0, none⟩) (v := .int .u8 0) (by simp [go_sem]); have z1 := hb.cell (a := ⟨w.heap.size + 2, 1, none⟩) (v := .int .u32 0) (by simp [go_sem]); have zf := fun o : Nat => hb.frz (a := ⟨w.heap.size + 2, o, none⟩) (by simp [go_sem]) (by simp [go_sem]); have hk : Keeps w w1 := (by (repeat (first | with_reducible exact Keeps.refl _ | with_reducible assumption | with_reducible refine Keeps.alloc ?_ _ | with_reducible refine Keeps.drewN ?_ _ | with_reducible refine Keeps.drew ?_ | refine Keeps.setCell ?_ (by dsimp only; omega) _ | with_reducible refine Keeps.trans ?_ (by assumption)))))
  go_wp2_with fail
  (go_at_call 71; refine (HHi.out _ (by (repeat (first | with_reducible exact Keeps.refl _ | with_reducible assumption | with_reducible refine Keeps.alloc ?_ _ | with_reducible refine Keeps.drewN ?_ _ | with_reducible refine Keeps.drew ?_ | refine Keeps.setCell ?_ (by dsimp only; omega) _ | with_reducible refine Keeps.trans ?_ (by assumption))))).mono ?_; rintro e w1 ⟨rfl, hb⟩; have hsz := hb.size; have zf := fun o : Nat => hb.frz (a := ⟨w.heap.size + 2, o, none⟩) (by dsimp only; omega) (zf o); have y0 := hb.cell y0; have y1 := hb.cell y1; have x0 := hb.cell x0; have x1 := hb.cell x1; have z0 := hb.cell z0; have z1 := hb.cell z1; have hz0 : w.heap.size < w1.heap.size := (by omega); have hz1 : w.heap.size + 1 < w1.heap.size := (by omega); have hz2 : w.heap.size + 2 < w1.heap.size := (by omega); have hk : Keeps w w1 := (by (repeat (first | with_reducible exact Keeps.refl _ | with_reducible assumption | with_reducible refine Keeps.alloc ?_ _ | with_reducible refine Keeps.drewN ?_ _ | with_reducible refine Keeps.drew ?_ | refine Keeps.setCell ?_ (by dsimp only; omega) _ | with_reducible refine Keeps.trans ?_ (by assumption)))))
  go_wp2_with fail
  (go_at_call 81; refine (HSm.out _).mono ?_; rintro e w1 ⟨rfl, hb⟩; have hsz := hb.size; have zf := fun o : Nat => hb.frz (a := ⟨w.heap.size + 2, o, none⟩) (by dsimp only; omega) (zf o); have y0 := hb.cell y0; have y1 := hb.cell y1; have x0 := hb.cell x0; have x1 := hb.cell x1; have z0 := hb.cell z0; have z1 := hb.cell z1; have hz0 : w.heap.size < w1.heap.size := (by omega); have hz1 : w.heap.size + 1 < w1.heap.size := (by omega); have hz2 : w.heap.size + 2 < w1.heap.size := (by omega); have hk : Keeps w w1 := (by (repeat (first | with_reducible exact Keeps.refl _ | with_reducible assumption | with_reducible refine Keeps.alloc ?_ _ | with_reducible refine Keeps.drewN ?_ _ | with_reducible refine Keeps.drew ?_ | refine Keeps.setCell ?_ (by dsimp only; omega) _ | with_reducible refine Keeps.trans ?_ (by assumption)))))
  go_wp2_with fail
  all_goals refine bodyPost_ret (v := .tuple #[.agg #[.int .u8 lo.tag, .int .u32 lo.to], .int .i64 0]) (by simp [results, Try.results32, go_sem, hz2, z0, z1]) rfl ⟨rfl, by (repeat (first | with_reducible exact Keeps.refl _ | with_reducible assumption | with_reducible refine Keeps.alloc ?_ _ | with_reducible refine Keeps.drewN ?_ _ | with_reducible refine Keeps.drew ?_ | refine Keeps.setCell ?_ (by dsimp only; omega) _ | with_reducible refine Keeps.trans ?_ (by assumption)))⟩


set_option maxRecDepth 100000 in
theorem rcmake_none {F : Nat → Prop} (R : World → World → Prop) (sb : Nat) (l n : Int) (lo hi : Edge) (a b er : Int) (w : World) (hn : n ≤ 16) (hsb : sb < w.heap.size) (c3 : w.cell? ⟨sb, 3, none⟩ = some (.int .i64 n))
    (h0 : 0 ≤ l) (h1 : l < n)
    (hlo : ∀ W, Keeps w W → Calls Try.prog 71 #[.pointer (some ⟨sb, 0, none⟩), .int .u8 3, .agg #[.int .u8 lo.tag, .int .u32 lo.to], .int .i64 (l + 1)] W fun e w' => e = .returned (.bool true) ∧ Keeps W w')
    (hhi : ∀ W, Keeps w W → Calls Try.prog 71 #[.pointer (some ⟨sb, 0, none⟩), .int .u8 3, .agg #[.int .u8 hi.tag, .int .u32 hi.to], .int .i64 (l + 1)] W fun e w' => e = .returned (.bool true) ∧ Keeps W w')
    (hs : ¬ lo = hi)
    (ha : ∀ W, Keeps w W → Calls Try.prog 77 #[.pointer (some ⟨sb, 0, none⟩), .int .u32 lo.to] W fun e w' => e = .returned (.int .i64 (-1)) ∧ W = w')
    (hlt : ∀ k, F k → k < w.heap.size) (hf : ∀ W, Keeps w W → Calls Try.prog 82 #[.pointer (some ⟨sb, 0, none⟩), .agg #[.int .u8 3, .int .u8 l, .int .u8 l, .int .u8 lo.tag, .int .u32 lo.to, .int .u8 hi.tag, .int .u32 hi.to]] W fun e w' => e = .returned (.tuple #[.agg #[.int .u8 a, .int .u32 b], .int .i64 er]) ∧ Upd F W w' ∧ R W w')
    : Calls Try.prog 32 #[.pointer (some ⟨sb, 0, none⟩), .int .i64 l, .agg #[.int .u8 lo.tag, .int .u32 lo.to], .agg #[.int .u8 hi.tag, .int .u32 hi.to]] w fun e w' => e = .returned (.tuple #[.agg #[.int .u8 a, .int .u32 b], .int .i64 er]) ∧ 
      ∃ W W1, Keeps w W ∧ Upd F W W1 ∧ R W W1 ∧ Upd (fun k => w.heap.size ≤ k ∧ k < W.heap.size) W1 w' := by
  have hsb1 : sb < w.heap.size + 1 := by omega
  have hsb2 : sb < w.heap.size + 1 + 1 := by omega
  have HLo := Lib.hid hlo
  clear hlo
  have HHi := Lib.hid hhi
  clear hhi
  have HF := Lib.hid hf
  have nF : ∀ k, w.heap.size ≤ k → ¬ F k := fun k hk h => by have := hlt k h; omega
  have n2 := nF (w.heap.size + 2) (by omega)
  clear hf hlt nF
  have HSm := Lib.hid (csame_false lo hi hs)
  have HS := Lib.hid hs
  clear hs
  have HA := Lib.hid ha
  clear ha
  go_enter Try.func32, Try.ntmps32
  go_wp2_with fail
  (go_at_call 71; refine (HLo.out _ (by (repeat (first | with_reducible exact Keeps.refl _ | with_reducible assumption | with_reducible refine Keeps.alloc ?_ _ | with_reducible refine Keeps.drewN ?_ _ | with_reducible refine Keeps.drew ?_ | refine Keeps.setCell ?_ (by dsimp only; omega) _ | with_reducible refine Keeps.trans ?_ (by assumption))))).mono ?_; rintro e w1 ⟨rfl, hb⟩; have hsz := hb.size; simp only [World.size_alloc] at hsz; have hz0 : w.heap.size < w1.heap.size := (by omega); have hz1 : w.heap.size + 1 < w1.heap.size := (by omega); have hz2 : w.heap.size + 2 < w1.heap.size := (by omega); have y0 := hb.cell (a := ⟨w.heap.size, 0, none⟩) (v := .int .u8 lo.tag) (by simp [go_sem]); have y1 := hb.cell (a := ⟨w.heap.size, 1, none⟩) (v := .int .u32 lo.to) (by simp [go_sem]); have x0 := hb.cell (a := ⟨w.heap.size + 1, 0, none⟩) (v := .int .u8 hi.tag) (by simp [go_sem]); have x1 := hb.cell (a := ⟨w.heap.size + 1, 1, none⟩) (v := .int .u32 hi.to) (by simp [go_sem]); have z0 := hb.cell (a := ⟨w.heap.size + 2, 0, none⟩) (v := .int .u8 0) (by simp [go_sem]); have z1 := hb.cell (a := ⟨w.heap.size + 2, 1, none⟩) (v := .int .u32 0) (by simp [go_sem]); have zf := fun o : Nat => hb.frz (a := ⟨w.heap.size + 2, o, none⟩) (by simp [go_sem]) (by simp [go_sem]); have hk : Keeps w w1 := (by (repeat (first | with_reducible exact Keeps.refl _ | with_reducible assumption | with_reducible refine Keeps.alloc ?_ _ | with_reducible refine Keeps.drewN ?_ _ | with_reducible refine Keeps.drew ?_ | refine Keeps.setCell ?_ (by dsimp only; omega) _ | with_reducible refine Keeps.trans ?_ (by assumption)))))
  go_wp2_with fail
  (go_at_call 71; refine (HHi.out _ (by (repeat (first | with_reducible exact Keeps.refl _ | with_reducible assumption | with_reducible refine Keeps.alloc ?_ _ | with_reducible refine Keeps.drewN ?_ _ | with_reducible refine Keeps.drew ?_ | refine Keeps.setCell ?_ (by dsimp only; omega) _ | with_reducible refine Keeps.trans ?_ (by assumption))))).mono ?_; rintro e w1 ⟨rfl, hb⟩; have hsz := hb.size; have zf := fun o : Nat => hb.frz (a := ⟨w.heap.size + 2, o, none⟩) (by dsimp only; omega) (zf o); have y0 := hb.cell y0; have y1 := hb.cell y1; have x0 := hb.cell x0; have x1 := hb.cell x1; have z0 := hb.cell z0; have z1 := hb.cell z1; have hz0 : w.heap.size < w1.heap.size := (by omega); have hz1 : w.heap.size + 1 < w1.heap.size := (by omega); have hz2 : w.heap.size + 2 < w1.heap.size := (by omega); have hk : Keeps w w1 := (by (repeat (first | with_reducible exact Keeps.refl _ | with_reducible assumption | with_reducible refine Keeps.alloc ?_ _ | with_reducible refine Keeps.drewN ?_ _ | with_reducible refine Keeps.drew ?_ | refine Keeps.setCell ?_ (by dsimp only; omega) _ | with_reducible refine Keeps.trans ?_ (by assumption)))))
  go_wp2_with fail
  (go_at_call 81; refine (HSm.out _).mono ?_; rintro e w1 ⟨rfl, hb⟩; have hsz := hb.size; have zf := fun o : Nat => hb.frz (a := ⟨w.heap.size + 2, o, none⟩) (by dsimp only; omega) (zf o); have y0 := hb.cell y0; have y1 := hb.cell y1; have x0 := hb.cell x0; have x1 := hb.cell x1; have z0 := hb.cell z0; have z1 := hb.cell z1; have hz0 : w.heap.size < w1.heap.size := (by omega); have hz1 : w.heap.size + 1 < w1.heap.size := (by omega); have hz2 : w.heap.size + 2 < w1.heap.size := (by omega); have hk : Keeps w w1 := (by (repeat (first | with_reducible exact Keeps.refl _ | with_reducible assumption | with_reducible refine Keeps.alloc ?_ _ | with_reducible refine Keeps.drewN ?_ _ | with_reducible refine Keeps.drew ?_ | refine Keeps.setCell ?_ (by dsimp only; omega) _ | with_reducible refine Keeps.trans ?_ (by assumption)))))
  go_wp2_with fail
  (go_at_call 77; refine (HA.out _ (by (repeat (first | with_reducible exact Keeps.refl _ | with_reducible assumption | with_reducible refine Keeps.alloc ?_ _ | with_reducible refine Keeps.drewN ?_ _ | with_reducible refine Keeps.drew ?_ | refine Keeps.setCell ?_ (by dsimp only; omega) _ | with_reducible refine Keeps.trans ?_ (by assumption))))).mono ?_; rintro e w2 ⟨rfl, rfl⟩)
  go_wp2_with fail
  have kx0 := KWorld.cell x0
  have kx1 := KWorld.cell x1
  have ky0 := KWorld.cell y0
  have ky1 := KWorld.cell y1
  refine wp_region_keeps (w1) (by kernel_rfl) (by kernel_rfl) (by (repeat (first | with_reducible exact Keeps.refl _ | with_reducible assumption | with_reducible refine Keeps.alloc ?_ _ | with_reducible refine Keeps.drewN ?_ _ | with_reducible refine Keeps.drew ?_ | refine Keeps.setCell ?_ (by dsimp only; omega) _ | with_reducible refine Keeps.trans ?_ (by assumption)))) ?_
  (repeat (go_big_quiet_step (fail)))
  refine wpQuiet_nil ?_
  rintro wq ⟨⟨_, hkq⟩, rfl⟩
  try dsimp only
  clear kx0 kx1 ky0 ky1
  have hsz := hkq.size
  have zf := fun o : Nat => hkq.frz (a := ⟨w.heap.size + 2, o, none⟩) (by dsimp only; omega) (zf o)
  have y0 := hkq.cell y0
  have y1 := hkq.cell y1
  have x0 := hkq.cell x0
  have x1 := hkq.cell x1
  have z0 := hkq.cell z0
  have z1 := hkq.cell z1
  have hz0 : w.heap.size < wq.heap.size := by omega
  have hz1 : w.heap.size + 1 < wq.heap.size := by omega
  have hz2 : w.heap.size + 2 < wq.heap.size := by omega
  have hk : Keeps w wq := hk.trans hkq
  all_goals go_wp2_with (first | (go_at_call 82; refine (HF.out _ (by (repeat (first | with_reducible exact Keeps.refl _ | with_reducible assumption | with_reducible refine Keeps.alloc ?_ _ | with_reducible refine Keeps.drewN ?_ _ | with_reducible refine Keeps.drew ?_ | refine Keeps.setCell ?_ (by dsimp only; omega) _ | with_reducible refine Keeps.trans ?_ (by assumption))))).mono ?_; rintro e w3 ⟨rfl, hu, hR⟩; have hs3 := hu.size; (try simp only [World.size_alloc, World.size_setCell, World.size_drew] at hs3); have v0 := hu.cell (a := ⟨w.heap.size + 2, 0, none⟩) n2 (v := .int .u8 0) (by simp [go_sem, hz2, z0]); have v1 := hu.cell (a := ⟨w.heap.size + 2, 1, none⟩) n2 (v := .int .u32 0) (by simp [go_sem, hz2, z1]); have vf := fun o : Nat => hu.frozen (a := ⟨w.heap.size + 2, o, none⟩) (by (try simp only [World.size_alloc, World.size_setCell, World.size_drew]); omega) n2 (by (try simp only [World.frozen?_setCell, World.frozen?_drew, frozen?_alloc_cells]); exact zf o); have hv2 : w.heap.size + 2 < w3.heap.size := (by omega)) | fail)
  all_goals refine bodyPost_ret (v := .tuple #[.agg #[.int .u8 a, .int .u32 b], .int .i64 er]) (by simp [results, Try.results32, go_sem, hv2, v0, v1]) rfl ⟨rfl, _, w3, by (repeat (first | with_reducible exact Keeps.refl _ | with_reducible assumption | with_reducible refine Keeps.alloc ?_ _ | with_reducible refine Keeps.drewN ?_ _ | with_reducible refine Keeps.drew ?_ | refine Keeps.setCell ?_ (by dsimp only; omega) _ | with_reducible refine Keeps.trans ?_ (by assumption))), hu, hR, ?_⟩
  all_goals (try simp only [World.size_alloc, World.size_setCell, World.size_drew])
  all_goals (repeat (first | with_reducible exact Upd.refl _ _ | exact Upd.mono hu4 (fun k _ hk => ⟨hk.1, by (try simp only [World.size_alloc, World.size_setCell, World.size_drew]); have := hk.2; omega⟩) | refine Upd.setCell ?_ (Or.inl (by dsimp only; omega)) _ | refine Upd.setCell ?_ (Or.inr (by dsimp only; omega)) _ | with_reducible refine Upd.drewN ?_ _ | with_reducible refine Upd.drew ?_ | with_reducible refine Upd.alloc ?_ _))


set_option maxRecDepth 100000 in
theorem rcmake_top {F : Nat → Prop} (R : World → World → Prop) (sb : Nat) (l n : Int) (lo hi : Edge) (x : Rec) (lb D len cap : Nat) (a b er : Int) (w : World) (hn : n ≤ 16) (hsb : sb < w.heap.size) (c3 : w.cell? ⟨sb, 3, none⟩ = some (.int .i64 n))
    (h0 : 0 ≤ l) (h1 : l < n)
    (hlo : ∀ W, Keeps w W → Calls Try.prog 71 #[.pointer (some ⟨sb, 0, none⟩), .int .u8 3, .agg #[.int .u8 lo.tag, .int .u32 lo.to], .int .i64 (l + 1)] W fun e w' => e = .returned (.bool true) ∧ Keeps W w')
    (hhi : ∀ W, Keeps w W → Calls Try.prog 71 #[.pointer (some ⟨sb, 0, none⟩), .int .u8 3, .agg #[.int .u8 hi.tag, .int .u32 hi.to], .int .i64 (l + 1)] W fun e w' => e = .returned (.bool true) ∧ Keeps W w')
    (hs : ¬ lo = hi)
    (hx : ¬ x.top = l + 1) (hx1 : 0 ≤ x.top) (hx2 : x.top ≤ 255)
    (c0 : w.cell? ⟨sb, 0, none⟩ = some (.slice (some ⟨lb, 0, none⟩) len cap)) (hD : D < len) (hlen : len ≤ 1048576)
    (s0 : w.cell? ⟨lb, D * 8 + 1, none⟩ = some (.int .u8 x.form)) (s1 : w.cell? ⟨lb, D * 8 + 2, none⟩ = some (.int .u8 x.top)) (s2 : w.cell? ⟨lb, D * 8 + 3, none⟩ = some (.int .u8 x.bot)) (s3 : w.cell? ⟨lb, D * 8 + 4, none⟩ = some (.int .u8 x.lo.tag)) (s4 : w.cell? ⟨lb, D * 8 + 5, none⟩ = some (.int .u32 x.lo.to)) (s5 : w.cell? ⟨lb, D * 8 + 6, none⟩ = some (.int .u8 x.hi.tag)) (s6 : w.cell? ⟨lb, D * 8 + 7, none⟩ = some (.int .u32 x.hi.to))
    (ha : ∀ W, Keeps w W → Calls Try.prog 77 #[.pointer (some ⟨sb, 0, none⟩), .int .u32 lo.to] W fun e w' => e = .returned (.int .i64 (D : Int)) ∧ W = w')
    (hlt : ∀ k, F k → k < w.heap.size) (hf : ∀ W, Keeps w W → Calls Try.prog 82 #[.pointer (some ⟨sb, 0, none⟩), .agg #[.int .u8 3, .int .u8 l, .int .u8 l, .int .u8 lo.tag, .int .u32 lo.to, .int .u8 hi.tag, .int .u32 hi.to]] W fun e w' => e = .returned (.tuple #[.agg #[.int .u8 a, .int .u32 b], .int .i64 er]) ∧ Upd F W w' ∧ R W w')
    : Calls Try.prog 32 #[.pointer (some ⟨sb, 0, none⟩), .int .i64 l, .agg #[.int .u8 lo.tag, .int .u32 lo.to], .agg #[.int .u8 hi.tag, .int .u32 hi.to]] w fun e w' => e = .returned (.tuple #[.agg #[.int .u8 a, .int .u32 b], .int .i64 er]) ∧ 
      ∃ W W1, Keeps w W ∧ Upd F W W1 ∧ R W W1 ∧ Upd (fun k => w.heap.size ≤ k ∧ k < W.heap.size) W1 w' := by
  have hsb1 : sb < w.heap.size + 1 := by omega
  have hsb2 : sb < w.heap.size + 1 + 1 := by omega
  have HLo := Lib.hid hlo
  clear hlo
  have HHi := Lib.hid hhi
  clear hhi
  have HF := Lib.hid hf
  have nF : ∀ k, w.heap.size ≤ k → ¬ F k := fun k hk h => by have := hlt k h; omega
  have n2 := nF (w.heap.size + 2) (by omega)
  clear hf hlt nF
  have HSm := Lib.hid (csame_false lo hi hs)
  have HS := Lib.hid hs
  clear hs
  have hxe : (x.top == l + 1) = false := by simp [hx]
  have HA := Lib.hid ha
  clear ha
  have hlb : lb < w.heap.size := lt_of_cell s0
  have HS8 := Lib.hid (And.intro c0 (And.intro s0 (And.intro s1 (And.intro s2 (And.intro s3 (And.intro s4 (And.intro s5 s6)))))))
  clear c0 s0 s1 s2 s3 s4 s5 s6
  have hD1 : (decide (0 ≤ (D : Int))) = true := by simp
  go_enter Try.func32, Try.ntmps32
  go_wp2_with fail
  (go_at_call 71; refine (HLo.out _ (by (repeat (first | with_reducible exact Keeps.refl _ | with_reducible assumption | with_reducible refine Keeps.alloc ?_ _ | with_reducible refine Keeps.drewN ?_ _ | with_reducible refine Keeps.drew ?_ | refine Keeps.setCell ?_ (by dsimp only; omega) _ | with_reducible refine Keeps.trans ?_ (by assumption))))).mono ?_; rintro e w1 ⟨rfl, hb⟩; have hsz := hb.size; simp only [World.size_alloc] at hsz; have hz0 : w.heap.size < w1.heap.size := (by omega); have hz1 : w.heap.size + 1 < w1.heap.size := (by omega); have hz2 : w.heap.size + 2 < w1.heap.size := (by omega); have y0 := hb.cell (a := ⟨w.heap.size, 0, none⟩) (v := .int .u8 lo.tag) (by simp [go_sem]); have y1 := hb.cell (a := ⟨w.heap.size, 1, none⟩) (v := .int .u32 lo.to) (by simp [go_sem]); have x0 := hb.cell (a := ⟨w.heap.size + 1, 0, none⟩) (v := .int .u8 hi.tag) (by simp [go_sem]); have x1 := hb.cell (a := ⟨w.heap.size + 1, 1, none⟩) (v := .int .u32 hi.to) (by simp [go_sem]); have z0 := hb.cell (a := ⟨w.heap.size + 2, 0, none⟩) (v := .int .u8 0) (by simp [go_sem]); have z1 := hb.cell (a := ⟨w.heap.size + 2, 1, none⟩) (v := .int .u32 0) (by simp [go_sem]); have zf := fun o : Nat => hb.frz (a := ⟨w.heap.size + 2, o, none⟩) (by simp [go_sem]) (by simp [go_sem]); have hk : Keeps w w1 := (by (repeat (first | with_reducible exact Keeps.refl _ | with_reducible assumption | with_reducible refine Keeps.alloc ?_ _ | with_reducible refine Keeps.drewN ?_ _ | with_reducible refine Keeps.drew ?_ | refine Keeps.setCell ?_ (by dsimp only; omega) _ | with_reducible refine Keeps.trans ?_ (by assumption)))))
  go_wp2_with fail
  (go_at_call 71; refine (HHi.out _ (by (repeat (first | with_reducible exact Keeps.refl _ | with_reducible assumption | with_reducible refine Keeps.alloc ?_ _ | with_reducible refine Keeps.drewN ?_ _ | with_reducible refine Keeps.drew ?_ | refine Keeps.setCell ?_ (by dsimp only; omega) _ | with_reducible refine Keeps.trans ?_ (by assumption))))).mono ?_; rintro e w1 ⟨rfl, hb⟩; have hsz := hb.size; have zf := fun o : Nat => hb.frz (a := ⟨w.heap.size + 2, o, none⟩) (by dsimp only; omega) (zf o); have y0 := hb.cell y0; have y1 := hb.cell y1; have x0 := hb.cell x0; have x1 := hb.cell x1; have z0 := hb.cell z0; have z1 := hb.cell z1; have hz0 : w.heap.size < w1.heap.size := (by omega); have hz1 : w.heap.size + 1 < w1.heap.size := (by omega); have hz2 : w.heap.size + 2 < w1.heap.size := (by omega); have hk : Keeps w w1 := (by (repeat (first | with_reducible exact Keeps.refl _ | with_reducible assumption | with_reducible refine Keeps.alloc ?_ _ | with_reducible refine Keeps.drewN ?_ _ | with_reducible refine Keeps.drew ?_ | refine Keeps.setCell ?_ (by dsimp only; omega) _ | with_reducible refine Keeps.trans ?_ (by assumption)))))
  go_wp2_with fail
  (go_at_call 81; refine (HSm.out _).mono ?_; rintro e w1 ⟨rfl, hb⟩; have hsz := hb.size; have zf := fun o : Nat => hb.frz (a := ⟨w.heap.size + 2, o, none⟩) (by dsimp only; omega) (zf o); have y0 := hb.cell y0; have y1 := hb.cell y1; have x0 := hb.cell x0; have x1 := hb.cell x1; have z0 := hb.cell z0; have z1 := hb.cell z1; have hz0 : w.heap.size < w1.heap.size := (by omega); have hz1 : w.heap.size + 1 < w1.heap.size := (by omega); have hz2 : w.heap.size + 2 < w1.heap.size := (by omega); have hk : Keeps w w1 := (by (repeat (first | with_reducible exact Keeps.refl _ | with_reducible assumption | with_reducible refine Keeps.alloc ?_ _ | with_reducible refine Keeps.drewN ?_ _ | with_reducible refine Keeps.drew ?_ | refine Keeps.setCell ?_ (by dsimp only; omega) _ | with_reducible refine Keeps.trans ?_ (by assumption)))))
  go_wp2_with fail
  have hlb1 : lb < w1.heap.size := by omega
  have hsb1 : sb < w1.heap.size := by omega
  have d0 := hk.cell HS8.out.1
  have u0 := hk.cell HS8.out.2.1
  have u1 := hk.cell HS8.out.2.2.1
  have u2 := hk.cell HS8.out.2.2.2.1
  have u3 := hk.cell HS8.out.2.2.2.2.1
  have u4 := hk.cell HS8.out.2.2.2.2.2.1
  have u5 := hk.cell HS8.out.2.2.2.2.2.2.1
  have u6 := hk.cell HS8.out.2.2.2.2.2.2.2
  (go_at_call 77; refine (HA.out _ (by (repeat (first | with_reducible exact Keeps.refl _ | with_reducible assumption | with_reducible refine Keeps.alloc ?_ _ | with_reducible refine Keeps.drewN ?_ _ | with_reducible refine Keeps.drew ?_ | refine Keeps.setCell ?_ (by dsimp only; omega) _ | with_reducible refine Keeps.trans ?_ (by assumption))))).mono ?_; rintro e w2 ⟨rfl, rfl⟩)
  go_wp2_with fail
  have kx0 := KWorld.cell x0
  have kx1 := KWorld.cell x1
  have ky0 := KWorld.cell y0
  have ky1 := KWorld.cell y1
  have kd0 := KWorld.cell d0
  have ku0 := KWorld.cell u0
  have ku1 := KWorld.cell u1
  have ku2 := KWorld.cell u2
  have ku3 := KWorld.cell u3
  have ku4 := KWorld.cell u4
  have ku5 := KWorld.cell u5
  have ku6 := KWorld.cell u6
  refine wp_region_keeps (w1) (by kernel_rfl) (by kernel_rfl) (by (repeat (first | with_reducible exact Keeps.refl _ | with_reducible assumption | with_reducible refine Keeps.alloc ?_ _ | with_reducible refine Keeps.drewN ?_ _ | with_reducible refine Keeps.drew ?_ | refine Keeps.setCell ?_ (by dsimp only; omega) _ | with_reducible refine Keeps.trans ?_ (by assumption)))) ?_
  (repeat (go_big_quiet_step (fail)))
  refine wpQuiet_nil ?_
  rintro wq ⟨⟨_, hkq⟩, rfl⟩
  try dsimp only
  clear kx0 kx1 ky0 ky1
  clear kd0 ku0 ku1 ku2 ku3 ku4 ku5 ku6
  have hsz := hkq.size
  have zf := fun o : Nat => hkq.frz (a := ⟨w.heap.size + 2, o, none⟩) (by dsimp only; omega) (zf o)
  have y0 := hkq.cell y0
  have y1 := hkq.cell y1
  have x0 := hkq.cell x0
  have x1 := hkq.cell x1
  have z0 := hkq.cell z0
  have z1 := hkq.cell z1
  have hz0 : w.heap.size < wq.heap.size := by omega
  have hz1 : w.heap.size + 1 < wq.heap.size := by omega
  have hz2 : w.heap.size + 2 < wq.heap.size := by omega
  have hk : Keeps w wq := hk.trans hkq
  all_goals go_wp2_with (first | (go_at_call 82; refine (HF.out _ (by (repeat (first | with_reducible exact Keeps.refl _ | with_reducible assumption | with_reducible refine Keeps.alloc ?_ _ | with_reducible refine Keeps.drewN ?_ _ | with_reducible refine Keeps.drew ?_ | refine Keeps.setCell ?_ (by dsimp only; omega) _ | with_reducible refine Keeps.trans ?_ (by assumption))))).mono ?_; rintro e w3 ⟨rfl, hu, hR⟩; have hs3 := hu.size; (try simp only [World.size_alloc, World.size_setCell, World.size_drew] at hs3); have v0 := hu.cell (a := ⟨w.heap.size + 2, 0, none⟩) n2 (v := .int .u8 0) (by simp [go_sem, hz2, z0]); have v1 := hu.cell (a := ⟨w.heap.size + 2, 1, none⟩) n2 (v := .int .u32 0) (by simp [go_sem, hz2, z1]); have vf := fun o : Nat => hu.frozen (a := ⟨w.heap.size + 2, o, none⟩) (by (try simp only [World.size_alloc, World.size_setCell, World.size_drew]); omega) n2 (by (try simp only [World.frozen?_setCell, World.frozen?_drew, frozen?_alloc_cells]); exact zf o); have hv2 : w.heap.size + 2 < w3.heap.size := (by omega)) | fail)
  all_goals refine bodyPost_ret (v := .tuple #[.agg #[.int .u8 a, .int .u32 b], .int .i64 er]) (by simp [results, Try.results32, go_sem, hv2, v0, v1]) rfl ⟨rfl, _, w3, by (repeat (first | with_reducible exact Keeps.refl _ | with_reducible assumption | with_reducible refine Keeps.alloc ?_ _ | with_reducible refine Keeps.drewN ?_ _ | with_reducible refine Keeps.drew ?_ | refine Keeps.setCell ?_ (by dsimp only; omega) _ | with_reducible refine Keeps.trans ?_ (by assumption))), hu, hR, ?_⟩
  all_goals (try simp only [World.size_alloc, World.size_setCell, World.size_drew])
  all_goals (repeat (first | with_reducible exact Upd.refl _ _ | exact Upd.mono hu4 (fun k _ hk => ⟨hk.1, by (try simp only [World.size_alloc, World.size_setCell, World.size_drew]); have := hk.2; omega⟩) | refine Upd.setCell ?_ (Or.inl (by dsimp only; omega)) _ | refine Upd.setCell ?_ (Or.inr (by dsimp only; omega)) _ | with_reducible refine Upd.drewN ?_ _ | with_reducible refine Upd.drew ?_ | with_reducible refine Upd.alloc ?_ _))


set_option maxRecDepth 100000 in
theorem rcmake_hino {F : Nat → Prop} (R : World → World → Prop) (sb : Nat) (l n : Int) (lo hi : Edge) (x : Rec) (lb D len cap : Nat) (a b er : Int) (w : World) (hn : n ≤ 16) (hsb : sb < w.heap.size) (c3 : w.cell? ⟨sb, 3, none⟩ = some (.int .i64 n))
    (h0 : 0 ≤ l) (h1 : l < n)
    (hlo : ∀ W, Keeps w W → Calls Try.prog 71 #[.pointer (some ⟨sb, 0, none⟩), .int .u8 3, .agg #[.int .u8 lo.tag, .int .u32 lo.to], .int .i64 (l + 1)] W fun e w' => e = .returned (.bool true) ∧ Keeps W w')
    (hhi : ∀ W, Keeps w W → Calls Try.prog 71 #[.pointer (some ⟨sb, 0, none⟩), .int .u8 3, .agg #[.int .u8 hi.tag, .int .u32 hi.to], .int .i64 (l + 1)] W fun e w' => e = .returned (.bool true) ∧ Keeps W w')
    (hs : ¬ lo = hi)
    (hx : ¬ x.hi = hi)
    (c0 : w.cell? ⟨sb, 0, none⟩ = some (.slice (some ⟨lb, 0, none⟩) len cap)) (hD : D < len) (hlen : len ≤ 1048576)
    (s0 : w.cell? ⟨lb, D * 8 + 1, none⟩ = some (.int .u8 x.form)) (s1 : w.cell? ⟨lb, D * 8 + 2, none⟩ = some (.int .u8 (l + 1))) (s2 : w.cell? ⟨lb, D * 8 + 3, none⟩ = some (.int .u8 x.bot)) (s3 : w.cell? ⟨lb, D * 8 + 4, none⟩ = some (.int .u8 x.lo.tag)) (s4 : w.cell? ⟨lb, D * 8 + 5, none⟩ = some (.int .u32 x.lo.to)) (s5 : w.cell? ⟨lb, D * 8 + 6, none⟩ = some (.int .u8 x.hi.tag)) (s6 : w.cell? ⟨lb, D * 8 + 7, none⟩ = some (.int .u32 x.hi.to))
    (ha : ∀ W, Keeps w W → Calls Try.prog 77 #[.pointer (some ⟨sb, 0, none⟩), .int .u32 lo.to] W fun e w' => e = .returned (.int .i64 (D : Int)) ∧ W = w')
    (hlt : ∀ k, F k → k < w.heap.size) (hf : ∀ W, Keeps w W → Calls Try.prog 82 #[.pointer (some ⟨sb, 0, none⟩), .agg #[.int .u8 3, .int .u8 l, .int .u8 l, .int .u8 lo.tag, .int .u32 lo.to, .int .u8 hi.tag, .int .u32 hi.to]] W fun e w' => e = .returned (.tuple #[.agg #[.int .u8 a, .int .u32 b], .int .i64 er]) ∧ Upd F W w' ∧ R W w')
    : Calls Try.prog 32 #[.pointer (some ⟨sb, 0, none⟩), .int .i64 l, .agg #[.int .u8 lo.tag, .int .u32 lo.to], .agg #[.int .u8 hi.tag, .int .u32 hi.to]] w fun e w' => e = .returned (.tuple #[.agg #[.int .u8 a, .int .u32 b], .int .i64 er]) ∧ 
      ∃ W W1, Keeps w W ∧ Upd F W W1 ∧ R W W1 ∧ Upd (fun k => w.heap.size ≤ k ∧ k < W.heap.size) W1 w' := by
  have hsb1 : sb < w.heap.size + 1 := by omega
  have hsb2 : sb < w.heap.size + 1 + 1 := by omega
  have HLo := Lib.hid hlo
  clear hlo
  have HHi := Lib.hid hhi
  clear hhi
  have HF := Lib.hid hf
  have nF : ∀ k, w.heap.size ≤ k → ¬ F k := fun k hk h => by have := hlt k h; omega
  have n2 := nF (w.heap.size + 2) (by omega)
  clear hf hlt nF
  have HSm := Lib.hid (csame_false lo hi hs)
  have HS := Lib.hid hs
  clear hs
  have HSm2 := Lib.hid (csame_false x.hi hi hx)
  have HX := Lib.hid hx
  clear hx
  have HA := Lib.hid ha
  clear ha
  have hlb : lb < w.heap.size := lt_of_cell s0
  have HS8 := Lib.hid (And.intro c0 (And.intro s0 (And.intro s1 (And.intro s2 (And.intro s3 (And.intro s4 (And.intro s5 s6)))))))
  clear c0 s0 s1 s2 s3 s4 s5 s6
  have hD1 : (decide (0 ≤ (D : Int))) = true := by simp
  go_enter Try.func32, Try.ntmps32
  go_wp2_with fail
  (go_at_call 71; refine (HLo.out _ (by (repeat (first | with_reducible exact Keeps.refl _ | with_reducible assumption | with_reducible refine Keeps.alloc ?_ _ | with_reducible refine Keeps.drewN ?_ _ | with_reducible refine Keeps.drew ?_ | refine Keeps.setCell ?_ (by dsimp only; omega) _ | with_reducible refine Keeps.trans ?_ (by assumption))))).mono ?_; rintro e w1 ⟨rfl, hb⟩; have hsz := hb.size; simp only [World.size_alloc] at hsz; have hz0 : w.heap.size < w1.heap.size := (by omega); have hz1 : w.heap.size + 1 < w1.heap.size := (by omega); have hz2 : w.heap.size + 2 < w1.heap.size := (by omega); have y0 := hb.cell (a := ⟨w.heap.size, 0, none⟩) (v := .int .u8 lo.tag) (by simp [go_sem]); have y1 := hb.cell (a := ⟨w.heap.size, 1, none⟩) (v := .int .u32 lo.to) (by simp [go_sem]); have x0 := hb.cell (a := ⟨w.heap.size + 1, 0, none⟩) (v := .int .u8 hi.tag) (by simp [go_sem]); have x1 := hb.cell (a := ⟨w.heap.size + 1, 1, none⟩) (v := .int .u32 hi.to) (by simp [go_sem]); have z0 := hb.cell (a := ⟨w.heap.size + 2, 0, none⟩) (v := .int .u8 0) (by simp [go_sem]); have z1 := hb.cell (a := ⟨w.heap.size + 2, 1, none⟩) (v := .int .u32 0) (by simp [go_sem]); have zf := fun o : Nat => hb.frz (a := ⟨w.heap.size + 2, o, none⟩) (by simp [go_sem]) (by simp [go_sem]); have hk : Keeps w w1 := (by (repeat (first | with_reducible exact Keeps.refl _ | with_reducible assumption | with_reducible refine Keeps.alloc ?_ _ | with_reducible refine Keeps.drewN ?_ _ | with_reducible refine Keeps.drew ?_ | refine Keeps.setCell ?_ (by dsimp only; omega) _ | with_reducible refine Keeps.trans ?_ (by assumption)))))
  go_wp2_with fail
  (go_at_call 71; refine (HHi.out _ (by (repeat (first | with_reducible exact Keeps.refl _ | with_reducible assumption | with_reducible refine Keeps.alloc ?_ _ | with_reducible refine Keeps.drewN ?_ _ | with_reducible refine Keeps.drew ?_ | refine Keeps.setCell ?_ (by dsimp only; omega) _ | with_reducible refine Keeps.trans ?_ (by assumption))))).mono ?_; rintro e w1 ⟨rfl, hb⟩; have hsz := hb.size; have zf := fun o : Nat => hb.frz (a := ⟨w.heap.size + 2, o, none⟩) (by dsimp only; omega) (zf o); have y0 := hb.cell y0; have y1 := hb.cell y1; have x0 := hb.cell x0; have x1 := hb.cell x1; have z0 := hb.cell z0; have z1 := hb.cell z1; have hz0 : w.heap.size < w1.heap.size := (by omega); have hz1 : w.heap.size + 1 < w1.heap.size := (by omega); have hz2 : w.heap.size + 2 < w1.heap.size := (by omega); have hk : Keeps w w1 := (by (repeat (first | with_reducible exact Keeps.refl _ | with_reducible assumption | with_reducible refine Keeps.alloc ?_ _ | with_reducible refine Keeps.drewN ?_ _ | with_reducible refine Keeps.drew ?_ | refine Keeps.setCell ?_ (by dsimp only; omega) _ | with_reducible refine Keeps.trans ?_ (by assumption)))))
  go_wp2_with fail
  (go_at_call 81; refine (HSm.out _).mono ?_; rintro e w1 ⟨rfl, hb⟩; have hsz := hb.size; have zf := fun o : Nat => hb.frz (a := ⟨w.heap.size + 2, o, none⟩) (by dsimp only; omega) (zf o); have y0 := hb.cell y0; have y1 := hb.cell y1; have x0 := hb.cell x0; have x1 := hb.cell x1; have z0 := hb.cell z0; have z1 := hb.cell z1; have hz0 : w.heap.size < w1.heap.size := (by omega); have hz1 : w.heap.size + 1 < w1.heap.size := (by omega); have hz2 : w.heap.size + 2 < w1.heap.size := (by omega); have hk : Keeps w w1 := (by (repeat (first | with_reducible exact Keeps.refl _ | with_reducible assumption | with_reducible refine Keeps.alloc ?_ _ | with_reducible refine Keeps.drewN ?_ _ | with_reducible refine Keeps.drew ?_ | refine Keeps.setCell ?_ (by dsimp only; omega) _ | with_reducible refine Keeps.trans ?_ (by assumption)))))
  go_wp2_with fail
  have hlb1 : lb < w1.heap.size := by omega
  have hsb1 : sb < w1.heap.size := by omega
  have d0 := hk.cell HS8.out.1
  have u0 := hk.cell HS8.out.2.1
  have u1 := hk.cell HS8.out.2.2.1
  have u2 := hk.cell HS8.out.2.2.2.1
  have u3 := hk.cell HS8.out.2.2.2.2.1
  have u4 := hk.cell HS8.out.2.2.2.2.2.1
  have u5 := hk.cell HS8.out.2.2.2.2.2.2.1
  have u6 := hk.cell HS8.out.2.2.2.2.2.2.2
  (go_at_call 77; refine (HA.out _ (by (repeat (first | with_reducible exact Keeps.refl _ | with_reducible assumption | with_reducible refine Keeps.alloc ?_ _ | with_reducible refine Keeps.drewN ?_ _ | with_reducible refine Keeps.drew ?_ | refine Keeps.setCell ?_ (by dsimp only; omega) _ | with_reducible refine Keeps.trans ?_ (by assumption))))).mono ?_; rintro e w2 ⟨rfl, rfl⟩)
  go_wp2_with fail
  have kx0 := KWorld.cell x0
  have kx1 := KWorld.cell x1
  have ky0 := KWorld.cell y0
  have ky1 := KWorld.cell y1
  have kd0 := KWorld.cell d0
  have ku0 := KWorld.cell u0
  have ku1 := KWorld.cell u1
  have ku2 := KWorld.cell u2
  have ku3 := KWorld.cell u3
  have ku4 := KWorld.cell u4
  have ku5 := KWorld.cell u5
  have ku6 := KWorld.cell u6
  refine wp_region_keeps (w1) (by kernel_rfl) (by kernel_rfl) (by (repeat (first | with_reducible exact Keeps.refl _ | with_reducible assumption | with_reducible refine Keeps.alloc ?_ _ | with_reducible refine Keeps.drewN ?_ _ | with_reducible refine Keeps.drew ?_ | refine Keeps.setCell ?_ (by dsimp only; omega) _ | with_reducible refine Keeps.trans ?_ (by assumption)))) ?_
  (repeat (go_big_quiet_step ((go_at_call 81; with_reducible refine Calls.keepsK (HSm2.out _)))))
  refine wpQuiet_nil ?_
  rintro wq ⟨⟨_, hkq⟩, rfl⟩
  try dsimp only
  clear kx0 kx1 ky0 ky1
  clear kd0 ku0 ku1 ku2 ku3 ku4 ku5 ku6
  have hsz := hkq.size
  have zf := fun o : Nat => hkq.frz (a := ⟨w.heap.size + 2, o, none⟩) (by dsimp only; omega) (zf o)
  have y0 := hkq.cell y0
  have y1 := hkq.cell y1
  have x0 := hkq.cell x0
  have x1 := hkq.cell x1
  have z0 := hkq.cell z0
  have z1 := hkq.cell z1
  have hz0 : w.heap.size < wq.heap.size := by omega
  have hz1 : w.heap.size + 1 < wq.heap.size := by omega
  have hz2 : w.heap.size + 2 < wq.heap.size := by omega
  have hk : Keeps w wq := hk.trans hkq
  all_goals go_wp2_with (first | (go_at_call 82; refine (HF.out _ (by (repeat (first | with_reducible exact Keeps.refl _ | with_reducible assumption | with_reducible refine Keeps.alloc ?_ _ | with_reducible refine Keeps.drewN ?_ _ | with_reducible refine Keeps.drew ?_ | refine Keeps.setCell ?_ (by dsimp only; omega) _ | with_reducible refine Keeps.trans ?_ (by assumption))))).mono ?_; rintro e w3 ⟨rfl, hu, hR⟩; have hs3 := hu.size; (try simp only [World.size_alloc, World.size_setCell, World.size_drew] at hs3); have v0 := hu.cell (a := ⟨w.heap.size + 2, 0, none⟩) n2 (v := .int .u8 0) (by simp [go_sem, hz2, z0]); have v1 := hu.cell (a := ⟨w.heap.size + 2, 1, none⟩) n2 (v := .int .u32 0) (by simp [go_sem, hz2, z1]); have vf := fun o : Nat => hu.frozen (a := ⟨w.heap.size + 2, o, none⟩) (by (try simp only [World.size_alloc, World.size_setCell, World.size_drew]); omega) n2 (by (try simp only [World.frozen?_setCell, World.frozen?_drew, frozen?_alloc_cells]); exact zf o); have hv2 : w.heap.size + 2 < w3.heap.size := (by omega)) | fail)
  all_goals refine bodyPost_ret (v := .tuple #[.agg #[.int .u8 a, .int .u32 b], .int .i64 er]) (by simp [results, Try.results32, go_sem, hv2, v0, v1]) rfl ⟨rfl, _, w3, by (repeat (first | with_reducible exact Keeps.refl _ | with_reducible assumption | with_reducible refine Keeps.alloc ?_ _ | with_reducible refine Keeps.drewN ?_ _ | with_reducible refine Keeps.drew ?_ | refine Keeps.setCell ?_ (by dsimp only; omega) _ | with_reducible refine Keeps.trans ?_ (by assumption))), hu, hR, ?_⟩
  all_goals (try simp only [World.size_alloc, World.size_setCell, World.size_drew])
  all_goals (repeat (first | with_reducible exact Upd.refl _ _ | exact Upd.mono hu4 (fun k _ hk => ⟨hk.1, by (try simp only [World.size_alloc, World.size_setCell, World.size_drew]); have := hk.2; omega⟩) | refine Upd.setCell ?_ (Or.inl (by dsimp only; omega)) _ | refine Upd.setCell ?_ (Or.inr (by dsimp only; omega)) _ | with_reducible refine Upd.drewN ?_ _ | with_reducible refine Upd.drew ?_ | with_reducible refine Upd.alloc ?_ _))


set_option maxRecDepth 100000 in
theorem rcmake_chain {F : Nat → Prop} (R : World → World → Prop) (sb : Nat) (l n : Int) (lo hi : Edge) (x : Rec) (lb D len cap : Nat) (a b er : Int) (w : World) (hn : n ≤ 16) (hsb : sb < w.heap.size) (c3 : w.cell? ⟨sb, 3, none⟩ = some (.int .i64 n))
    (h0 : 0 ≤ l) (h1 : l < n)
    (hlo : ∀ W, Keeps w W → Calls Try.prog 71 #[.pointer (some ⟨sb, 0, none⟩), .int .u8 3, .agg #[.int .u8 lo.tag, .int .u32 lo.to], .int .i64 (l + 1)] W fun e w' => e = .returned (.bool true) ∧ Keeps W w')
    (hhi : ∀ W, Keeps w W → Calls Try.prog 71 #[.pointer (some ⟨sb, 0, none⟩), .int .u8 3, .agg #[.int .u8 hi.tag, .int .u32 hi.to], .int .i64 (l + 1)] W fun e w' => e = .returned (.bool true) ∧ Keeps W w')
    (hs : ¬ lo = hi)
    (c0 : w.cell? ⟨sb, 0, none⟩ = some (.slice (some ⟨lb, 0, none⟩) len cap)) (hD : D < len) (hlen : len ≤ 1048576)
    (s0 : w.cell? ⟨lb, D * 8 + 1, none⟩ = some (.int .u8 x.form)) (s1 : w.cell? ⟨lb, D * 8 + 2, none⟩ = some (.int .u8 (l + 1))) (s2 : w.cell? ⟨lb, D * 8 + 3, none⟩ = some (.int .u8 x.bot)) (s3 : w.cell? ⟨lb, D * 8 + 4, none⟩ = some (.int .u8 x.lo.tag)) (s4 : w.cell? ⟨lb, D * 8 + 5, none⟩ = some (.int .u32 x.lo.to)) (s5 : w.cell? ⟨lb, D * 8 + 6, none⟩ = some (.int .u8 hi.tag)) (s6 : w.cell? ⟨lb, D * 8 + 7, none⟩ = some (.int .u32 hi.to))
    (ha : ∀ W, Keeps w W → Calls Try.prog 77 #[.pointer (some ⟨sb, 0, none⟩), .int .u32 lo.to] W fun e w' => e = .returned (.int .i64 (D : Int)) ∧ W = w')
    (hlt : ∀ k, F k → k < w.heap.size) (hf : ∀ W, Keeps w W → Calls Try.prog 82 #[.pointer (some ⟨sb, 0, none⟩), .agg #[.int .u8 3, .int .u8 l, .int .u8 x.bot, .int .u8 x.lo.tag, .int .u32 x.lo.to, .int .u8 hi.tag, .int .u32 hi.to]] W fun e w' => e = .returned (.tuple #[.agg #[.int .u8 a, .int .u32 b], .int .i64 er]) ∧ Upd F W w' ∧ R W w')
    : Calls Try.prog 32 #[.pointer (some ⟨sb, 0, none⟩), .int .i64 l, .agg #[.int .u8 lo.tag, .int .u32 lo.to], .agg #[.int .u8 hi.tag, .int .u32 hi.to]] w fun e w' => e = .returned (.tuple #[.agg #[.int .u8 a, .int .u32 b], .int .i64 er]) ∧ 
      ∃ W W1, Keeps w W ∧ Upd F W W1 ∧ R W W1 ∧ Upd (fun k => w.heap.size ≤ k ∧ k < W.heap.size) W1 w' := by
  have hsb1 : sb < w.heap.size + 1 := by omega
  have hsb2 : sb < w.heap.size + 1 + 1 := by omega
  have HLo := Lib.hid hlo
  clear hlo
  have HHi := Lib.hid hhi
  clear hhi
  have HF := Lib.hid hf
  have nF : ∀ k, w.heap.size ≤ k → ¬ F k := fun k hk h => by have := hlt k h; omega
  have n2 := nF (w.heap.size + 2) (by omega)
  clear hf hlt nF
  have HSm := Lib.hid (csame_false lo hi hs)
  have HS := Lib.hid hs
  clear hs
  have HSm2 := Lib.hid (csame_true hi hi rfl)
  have HA := Lib.hid ha
  clear ha
  have hlb : lb < w.heap.size := lt_of_cell s0
  have HS8 := Lib.hid (And.intro c0 (And.intro s0 (And.intro s1 (And.intro s2 (And.intro s3 (And.intro s4 (And.intro s5 s6)))))))
  clear c0 s0 s1 s2 s3 s4 s5 s6
  have hD1 : (decide (0 ≤ (D : Int))) = true := by simp
  go_enter Try.func32, Try.ntmps32
  go_wp2_with fail
  (go_at_call 71; refine (HLo.out _ (by (repeat (first | with_reducible exact Keeps.refl _ | with_reducible assumption | with_reducible refine Keeps.alloc ?_ _ | with_reducible refine Keeps.drewN ?_ _ | with_reducible refine Keeps.drew ?_ | refine Keeps.setCell ?_ (by dsimp only; omega) _ | with_reducible refine Keeps.trans ?_ (by assumption))))).mono ?_; rintro e w1 ⟨rfl, hb⟩; have hsz := hb.size; simp only [World.size_alloc] at hsz; have hz0 : w.heap.size < w1.heap.size := (by omega); have hz1 : w.heap.size + 1 < w1.heap.size := (by omega); have hz2 : w.heap.size + 2 < w1.heap.size := (by omega); have y0 := hb.cell (a := ⟨w.heap.size, 0, none⟩) (v := .int .u8 lo.tag) (by simp [go_sem]); have y1 := hb.cell (a := ⟨w.heap.size, 1, none⟩) (v := .int .u32 lo.to) (by simp [go_sem]); have x0 := hb.cell (a := ⟨w.heap.size + 1, 0, none⟩) (v := .int .u8 hi.tag) (by simp [go_sem]); have x1 := hb.cell (a := ⟨w.heap.size + 1, 1, none⟩) (v := .int .u32 hi.to) (by simp [go_sem]); have z0 := hb.cell (a := ⟨w.heap.size + 2, 0, none⟩) (v := .int .u8 0) (by simp [go_sem]); have z1 := hb.cell (a := ⟨w.heap.size + 2, 1, none⟩) (v := .int .u32 0) (by simp [go_sem]); have zf := fun o : Nat => hb.frz (a := ⟨w.heap.size + 2, o, none⟩) (by simp [go_sem]) (by simp [go_sem]); have hk : Keeps w w1 := (by (repeat (first | with_reducible exact Keeps.refl _ | with_reducible assumption | with_reducible refine Keeps.alloc ?_ _ | with_reducible refine Keeps.drewN ?_ _ | with_reducible refine Keeps.drew ?_ | refine Keeps.setCell ?_ (by dsimp only; omega) _ | with_reducible refine Keeps.trans ?_ (by assumption)))))
  go_wp2_with fail
  (go_at_call 71; refine (HHi.out _ (by (repeat (first | with_reducible exact Keeps.refl _ | with_reducible assumption | with_reducible refine Keeps.alloc ?_ _ | with_reducible refine Keeps.drewN ?_ _ | with_reducible refine Keeps.drew ?_ | refine Keeps.setCell ?_ (by dsimp only; omega) _ | with_reducible refine Keeps.trans ?_ (by assumption))))).mono ?_; rintro e w1 ⟨rfl, hb⟩; have hsz := hb.size; have zf := fun o : Nat => hb.frz (a := ⟨w.heap.size + 2, o, none⟩) (by dsimp only; omega) (zf o); have y0 := hb.cell y0; have y1 := hb.cell y1; have x0 := hb.cell x0; have x1 := hb.cell x1; have z0 := hb.cell z0; have z1 := hb.cell z1; have hz0 : w.heap.size < w1.heap.size := (by omega); have hz1 : w.heap.size + 1 < w1.heap.size := (by omega); have hz2 : w.heap.size + 2 < w1.heap.size := (by omega); have hk : Keeps w w1 := (by (repeat (first | with_reducible exact Keeps.refl _ | with_reducible assumption | with_reducible refine Keeps.alloc ?_ _ | with_reducible refine Keeps.drewN ?_ _ | with_reducible refine Keeps.drew ?_ | refine Keeps.setCell ?_ (by dsimp only; omega) _ | with_reducible refine Keeps.trans ?_ (by assumption)))))
  go_wp2_with fail
  (go_at_call 81; refine (HSm.out _).mono ?_; rintro e w1 ⟨rfl, hb⟩; have hsz := hb.size; have zf := fun o : Nat => hb.frz (a := ⟨w.heap.size + 2, o, none⟩) (by dsimp only; omega) (zf o); have y0 := hb.cell y0; have y1 := hb.cell y1; have x0 := hb.cell x0; have x1 := hb.cell x1; have z0 := hb.cell z0; have z1 := hb.cell z1; have hz0 : w.heap.size < w1.heap.size := (by omega); have hz1 : w.heap.size + 1 < w1.heap.size := (by omega); have hz2 : w.heap.size + 2 < w1.heap.size := (by omega); have hk : Keeps w w1 := (by (repeat (first | with_reducible exact Keeps.refl _ | with_reducible assumption | with_reducible refine Keeps.alloc ?_ _ | with_reducible refine Keeps.drewN ?_ _ | with_reducible refine Keeps.drew ?_ | refine Keeps.setCell ?_ (by dsimp only; omega) _ | with_reducible refine Keeps.trans ?_ (by assumption)))))
  go_wp2_with fail
  have hlb1 : lb < w1.heap.size := by omega
  have hsb1 : sb < w1.heap.size := by omega
  have d0 := hk.cell HS8.out.1
  have u0 := hk.cell HS8.out.2.1
  have u1 := hk.cell HS8.out.2.2.1
  have u2 := hk.cell HS8.out.2.2.2.1
  have u3 := hk.cell HS8.out.2.2.2.2.1
  have u4 := hk.cell HS8.out.2.2.2.2.2.1
  have u5 := hk.cell HS8.out.2.2.2.2.2.2.1
  have u6 := hk.cell HS8.out.2.2.2.2.2.2.2
  (go_at_call 77; refine (HA.out _ (by (repeat (first | with_reducible exact Keeps.refl _ | with_reducible assumption | with_reducible refine Keeps.alloc ?_ _ | with_reducible refine Keeps.drewN ?_ _ | with_reducible refine Keeps.drew ?_ | refine Keeps.setCell ?_ (by dsimp only; omega) _ | with_reducible refine Keeps.trans ?_ (by assumption))))).mono ?_; rintro e w2 ⟨rfl, rfl⟩)
  go_wp2_with fail
  have kx0 := KWorld.cell x0
  have kx1 := KWorld.cell x1
  have ky0 := KWorld.cell y0
  have ky1 := KWorld.cell y1
  have kd0 := KWorld.cell d0
  have ku0 := KWorld.cell u0
  have ku1 := KWorld.cell u1
  have ku2 := KWorld.cell u2
  have ku3 := KWorld.cell u3
  have ku4 := KWorld.cell u4
  have ku5 := KWorld.cell u5
  have ku6 := KWorld.cell u6
  refine wp_region_keeps (w1) (by kernel_rfl) (by kernel_rfl) (by (repeat (first | with_reducible exact Keeps.refl _ | with_reducible assumption | with_reducible refine Keeps.alloc ?_ _ | with_reducible refine Keeps.drewN ?_ _ | with_reducible refine Keeps.drew ?_ | refine Keeps.setCell ?_ (by dsimp only; omega) _ | with_reducible refine Keeps.trans ?_ (by assumption)))) ?_
  (repeat (go_big_quiet_step ((go_at_call 81; with_reducible refine Calls.keepsK (HSm2.out _)))))
  refine wpQuiet_nil ?_
  rintro wq ⟨⟨_, hkq⟩, rfl⟩
  try dsimp only
  clear kx0 kx1 ky0 ky1
  clear kd0 ku0 ku1 ku2 ku3 ku4 ku5 ku6
  have hsz := hkq.size
  have zf := fun o : Nat => hkq.frz (a := ⟨w.heap.size + 2, o, none⟩) (by dsimp only; omega) (zf o)
  have y0 := hkq.cell y0
  have y1 := hkq.cell y1
  have x0 := hkq.cell x0
  have x1 := hkq.cell x1
  have z0 := hkq.cell z0
  have z1 := hkq.cell z1
  have hz0 : w.heap.size < wq.heap.size := by omega
  have hz1 : w.heap.size + 1 < wq.heap.size := by omega
  have hz2 : w.heap.size + 2 < wq.heap.size := by omega
  have hk : Keeps w wq := hk.trans hkq
  go_wp2_with fail
  have hsb1 : sb < wq.heap.size := by omega
  have hlb1 : lb < wq.heap.size := by omega
  have d0 := hk.cell HS8.out.1
  have u0 := hk.cell HS8.out.2.1
  have u1 := hk.cell HS8.out.2.2.1
  have u2 := hk.cell HS8.out.2.2.2.1
  have u3 := hk.cell HS8.out.2.2.2.2.1
  have u4 := hk.cell HS8.out.2.2.2.2.2.1
  have u5 := hk.cell HS8.out.2.2.2.2.2.2.1
  have u6 := hk.cell HS8.out.2.2.2.2.2.2.2
  have hwr : IntKind.u8.wrap l = l := IntWalk.u8_in l ⟨by omega, by omega⟩
  refine wp_region_head 23 #[true, true, true, true, true, true, true, true, true, true, true, true, true, true, true, true, true, true, true, true, true, true, true, false, false, false, false, false] (by kernel_rfl) (by kernel_rfl) ?_
  simp only [List.take_succ_cons, List.take_zero, List.drop_succ_cons, List.drop_zero]
  repeat still_step
  refine wpStill_nil ?_
  refine wpAny_ready (fuel := 4) (rs := [23]) (by kernel_rfl) (by decide) (AllReady.cons rfl (fun K hK => ?_) AllReady.nil)
  go_simp
  ((try rw [hwr]); refine (HF.out _ (by (repeat (first | with_reducible exact Keeps.refl _ | with_reducible assumption | with_reducible refine Keeps.alloc ?_ _ | with_reducible refine Keeps.drewN ?_ _ | with_reducible refine Keeps.drew ?_ | refine Keeps.setCell ?_ (by dsimp only; omega) _ | with_reducible refine Keeps.trans ?_ (by assumption))))).mono ?_; rintro e w3 ⟨rfl, hu, hR⟩; have hs3 := hu.size; (try simp only [World.size_alloc, World.size_setCell, World.size_drew] at hs3); have v0 := hu.cell (a := ⟨w.heap.size + 2, 0, none⟩) n2 (v := .int .u8 0) (by simp [go_sem, hz2, z0]); have v1 := hu.cell (a := ⟨w.heap.size + 2, 1, none⟩) n2 (v := .int .u32 0) (by simp [go_sem, hz2, z1]); have vf := fun o : Nat => hu.frozen (a := ⟨w.heap.size + 2, o, none⟩) (by (try simp only [World.size_alloc, World.size_setCell, World.size_drew]); omega) n2 (by (try simp only [World.frozen?_setCell, World.frozen?_drew, frozen?_alloc_cells]); exact zf o); have hv2 : w.heap.size + 2 < w3.heap.size := (by omega))
  refine hK _ _ ?_
  clear hK K
  refine wpAny_take (i := 24) (v := ?_) rfl (by kernel_rfl) (by kernel_rfl) (by kernel_rfl) (fun _ _ _ h => h) (Or.inl ⟨by rfl, ?_⟩) ?_
  rotate_left
  · intro w; go_simp; try with_reducible rfl
  refine wpAny_take (i := 25) (v := ?_) rfl (by kernel_rfl) (by kernel_rfl) (by kernel_rfl) (fun _ _ _ h => h) (Or.inl ⟨by rfl, ?_⟩) ?_
  rotate_left
  · intro w; go_simp; try with_reducible rfl
  refine wpAny_ready (rs := [26]) (by kernel_rfl) (by decide) (AllReady.cons rfl (fun K hK => ?_) AllReady.nil)
  go_simp
  refine hK _ _ ?_
  clear hK K
  refine wpAny_ready (rs := [27]) (by kernel_rfl) (by decide) (AllReady.cons rfl (fun K hK => ?_) AllReady.nil)
  go_simp
  refine hK _ _ ?_
  clear hK K
  refine wpAny_done (by kernel_rfl) ?_ _
  go_wp2
  all_goals refine bodyPost_ret (v := .tuple #[.agg #[.int .u8 a, .int .u32 b], .int .i64 er]) (by simp [results, Try.results32, go_sem, hv2, v0, v1]) rfl ⟨rfl, _, w3, by (repeat (first | with_reducible exact Keeps.refl _ | with_reducible assumption | with_reducible refine Keeps.alloc ?_ _ | with_reducible refine Keeps.drewN ?_ _ | with_reducible refine Keeps.drew ?_ | refine Keeps.setCell ?_ (by dsimp only; omega) _ | with_reducible refine Keeps.trans ?_ (by assumption))), hu, hR, ?_⟩
  all_goals (try simp only [World.size_alloc, World.size_setCell, World.size_drew])
  all_goals (repeat (first | with_reducible exact Upd.refl _ _ | exact Upd.mono hu4 (fun k _ hk => ⟨hk.1, by (try simp only [World.size_alloc, World.size_setCell, World.size_drew]); have := hk.2; omega⟩) | refine Upd.setCell ?_ (Or.inl (by dsimp only; omega)) _ | refine Upd.setCell ?_ (Or.inr (by dsimp only; omega)) _ | with_reducible refine Upd.drewN ?_ _ | with_reducible refine Upd.drew ?_ | with_reducible refine Upd.alloc ?_ _))


end Go.Proofs.Ytedlchpdbpffmaa
