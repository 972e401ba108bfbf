/-
  The walk of ref12.View, case by case (printed by wip/mk_view.py).
-/
import Derived.Test.YtnkehgohamjpaaaGreatPViewA
import Derived.BigRegion
namespace Go.Proofs.YtnkehgohamjpaaaGreat
set_option linter.unusedSimpArgs false
set_option linter.unusedVariables false
set_option maxHeartbeats 600000
open Go.RowKit

set_option maxRecDepth 100000 in
theorem rbview_neg (sb : Nat) (l n : Int) (v : Edge) (w : World) (hn : n ≤ 16) (hsb : sb < w.heap.size) (c3 : w.cell? ⟨sb, 3, none⟩ = some (.int .i64 n))
    (h0 : l < 0)
    : Calls Tryz.prog 56 #[.pointer (some ⟨sb, 0, none⟩), .agg #[.int .u8 v.tag, .int .u32 v.to], .int .i64 l] w fun e w' => e = .returned (.tuple #[.agg #[.int .u8 0, .int .u32 0], .agg #[.int .u8 0, .int .u32 0], .int .i64 3]) ∧ Keeps w w' := by
  have hsb1 : sb < w.heap.size + 1 := by omega
  have hsb2 : sb < w.heap.size + 1 + 1 := by omega
  go_enter Tryz.func56, Tryz.ntmps56
  go_wp2_with fail
  all_goals refine bodyPost_ret (v := .tuple #[.agg #[.int .u8 0, .int .u32 0], .agg #[.int .u8 0, .int .u32 0], .int .i64 3]) (by simp [results, Tryz.results56, go_sem]) rfl ⟨rfl, by (repeat (first | with_reducible exact Keeps.refl _ | with_reducible assumption | with_reducible refine Keeps.alloc ?_ _ | with_reducible refine Keeps.drewN ?_ _ | with_reducible refine Keeps.drew ?_ | refine Keeps.setCell ?_ (by dsimp only; omega) _ | with_reducible refine Keeps.trans ?_ (by assumption)))⟩


set_option maxRecDepth 100000 in
theorem rbview_big (sb : Nat) (l n : Int) (v : Edge) (w : World) (hn : n ≤ 16) (hsb : sb < w.heap.size) (c3 : w.cell? ⟨sb, 3, none⟩ = some (.int .i64 n))
    (h0 : 0 ≤ l) (h1 : n ≤ l)
    : Calls Tryz.prog 56 #[.pointer (some ⟨sb, 0, none⟩), .agg #[.int .u8 v.tag, .int .u32 v.to], .int .i64 l] w fun e w' => e = .returned (.tuple #[.agg #[.int .u8 0, .int .u32 0], .agg #[.int .u8 0, .int .u32 0], .int .i64 3]) ∧ Keeps w w' := by
  have hsb1 : sb < w.heap.size + 1 := by omega
  have hsb2 : sb < w.heap.size + 1 + 1 := by omega
  go_enter Tryz.func56, Tryz.ntmps56
  go_wp2_with fail
  all_goals refine bodyPost_ret (v := .tuple #[.agg #[.int .u8 0, .int .u32 0], .agg #[.int .u8 0, .int .u32 0], .int .i64 3]) (by simp [results, Tryz.results56, go_sem]) rfl ⟨rfl, by (repeat (first | with_reducible exact Keeps.refl _ | with_reducible assumption | with_reducible refine Keeps.alloc ?_ _ | with_reducible refine Keeps.drewN ?_ _ | with_reducible refine Keeps.drew ?_ | refine Keeps.setCell ?_ (by dsimp only; omega) _ | with_reducible refine Keeps.trans ?_ (by assumption)))⟩


set_option maxRecDepth 100000 in
theorem rbview_no (sb : Nat) (l n : Int) (v : Edge) (w : World) (hn : n ≤ 16) (hsb : sb < w.heap.size) (c3 : w.cell? ⟨sb, 3, none⟩ = some (.int .i64 n))
    (h0 : 0 ≤ l) (h1 : l < n)
    (hl : ∀ W, Keeps w W → Calls Tryz.prog 93 #[.pointer (some ⟨sb, 0, none⟩), .int .u8 1, .agg #[.int .u8 v.tag, .int .u32 v.to], .int .i64 l] W fun e w' => e = .returned (.bool false) ∧ Keeps W w')
    : Calls Tryz.prog 56 #[.pointer (some ⟨sb, 0, none⟩), .agg #[.int .u8 v.tag, .int .u32 v.to], .int .i64 l] w fun e w' => e = .returned (.tuple #[.agg #[.int .u8 0, .int .u32 0], .agg #[.int .u8 0, .int .u32 0], .int .i64 1]) ∧ Keeps w w' := by
  have HL := Lib.hid hl
  clear hl
  have hsb1 : sb < w.heap.size + 1 := by omega
  have hsb2 : sb < w.heap.size + 1 + 1 := by omega
  go_enter Tryz.func56, Tryz.ntmps56
  go_wp2_with fail
  (go_at_call 93; refine (HL.out _ (by (repeat (first | with_reducible exact Keeps.refl _ | with_reducible assumption | with_reducible refine Keeps.alloc ?_ _ | with_reducible refine Keeps.drewN ?_ _ | with_reducible refine Keeps.drew ?_ | refine Keeps.setCell ?_ (by dsimp only; omega) _ | with_reducible refine Keeps.trans ?_ (by assumption))))).mono ?_; rintro e w1 ⟨rfl, hb⟩; have hsz := hb.size; simp only [World.size_alloc] at hsz; have hz0 : w.heap.size < w1.heap.size := (by omega); have hz1 : w.heap.size + 1 < w1.heap.size := (by omega); have hz2 : w.heap.size + 2 < w1.heap.size := (by omega); have y0 := hb.cell (a := ⟨w.heap.size, 0, none⟩) (v := .int .u8 v.tag) (by simp [go_sem]); have y1 := hb.cell (a := ⟨w.heap.size, 1, none⟩) (v := .int .u32 v.to) (by simp [go_sem]); have x0 := hb.cell (a := ⟨w.heap.size + 1, 0, none⟩) (v := .int .u8 0) (by simp [go_sem]); have x1 := hb.cell (a := ⟨w.heap.size + 1, 1, none⟩) (v := .int .u32 0) (by simp [go_sem]); have z0 := hb.cell (a := ⟨w.heap.size + 2, 0, none⟩) (v := .int .u8 0) (by simp [go_sem]); have z1 := hb.cell (a := ⟨w.heap.size + 2, 1, none⟩) (v := .int .u32 0) (by simp [go_sem]); have xf := fun o : Nat => hb.frz (a := ⟨w.heap.size + 1, o, none⟩) (by simp [go_sem]) (by simp [go_sem]); have zf := fun o : Nat => hb.frz (a := ⟨w.heap.size + 2, o, none⟩) (by simp [go_sem]) (by simp [go_sem]); have hk : Keeps w w1 := (by (repeat (first | with_reducible exact Keeps.refl _ | with_reducible assumption | with_reducible refine Keeps.alloc ?_ _ | with_reducible refine Keeps.drewN ?_ _ | with_reducible refine Keeps.drew ?_ | refine Keeps.setCell ?_ (by dsimp only; omega) _ | with_reducible refine Keeps.trans ?_ (by assumption)))))
  go_wp2_with fail
  all_goals refine bodyPost_ret (v := .tuple #[.agg #[.int .u8 0, .int .u32 0], .agg #[.int .u8 0, .int .u32 0], .int .i64 1]) (by simp [results, Tryz.results56, go_sem, hz1, hz2, x0, x1, z0, z1]) rfl ⟨rfl, by (repeat (first | with_reducible exact Keeps.refl _ | with_reducible assumption | with_reducible refine Keeps.alloc ?_ _ | with_reducible refine Keeps.drewN ?_ _ | with_reducible refine Keeps.drew ?_ | refine Keeps.setCell ?_ (by dsimp only; omega) _ | with_reducible refine Keeps.trans ?_ (by assumption)))⟩


set_option maxRecDepth 100000 in
theorem rbview_none (sb : Nat) (l n : Int) (v : Edge) (w : World) (hn : n ≤ 16) (hsb : sb < w.heap.size) (c3 : w.cell? ⟨sb, 3, none⟩ = some (.int .i64 n))
    (h0 : 0 ≤ l) (h1 : l < n)
    (hl : ∀ W, Keeps w W → Calls Tryz.prog 93 #[.pointer (some ⟨sb, 0, none⟩), .int .u8 1, .agg #[.int .u8 v.tag, .int .u32 v.to], .int .i64 l] W fun e w' => e = .returned (.bool true) ∧ Keeps W w')
    (ha : ∀ W, Keeps w W → Calls Tryz.prog 95 #[.pointer (some ⟨sb, 0, none⟩), .int .u32 v.to] W fun e w' => e = .returned (.int .i64 (-1)) ∧ W = w')
    : Calls Tryz.prog 56 #[.pointer (some ⟨sb, 0, none⟩), .agg #[.int .u8 v.tag, .int .u32 v.to], .int .i64 l] w fun e w' => e = .returned (.tuple #[.agg #[.int .u8 v.tag, .int .u32 v.to], .agg #[.int .u8 v.tag, .int .u32 v.to], .int .i64 0]) ∧ Keeps w w' := by
  have HL := Lib.hid hl
  clear hl
  have hsb1 : sb < w.heap.size + 1 := by omega
  have hsb2 : sb < w.heap.size + 1 + 1 := by omega
  have HA := Lib.hid ha
  clear ha
  go_enter Tryz.func56, Tryz.ntmps56
  go_wp2_with fail
  (go_at_call 93; refine (HL.out _ (by (repeat (first | with_reducible exact Keeps.refl _ | with_reducible assumption | with_reducible refine Keeps.alloc ?_ _ | with_reducible refine Keeps.drewN ?_ _ | with_reducible refine Keeps.drew ?_ | refine Keeps.setCell ?_ (by dsimp only; omega) _ | with_reducible refine Keeps.trans ?_ (by assumption))))).mono ?_; rintro e w1 ⟨rfl, hb⟩; have hsz := hb.size; simp only [World.size_alloc] at hsz; have hz0 : w.heap.size < w1.heap.size := (by omega); have hz1 : w.heap.size + 1 < w1.heap.size := (by omega); have hz2 : w.heap.size + 2 < w1.heap.size := (by omega); have y0 := hb.cell (a := ⟨w.heap.size, 0, none⟩) (v := .int .u8 v.tag) (by simp [go_sem]); have y1 := hb.cell (a := ⟨w.heap.size, 1, none⟩) (v := .int .u32 v.to) (by simp [go_sem]); have x0 := hb.cell (a := ⟨w.heap.size + 1, 0, none⟩) (v := .int .u8 0) (by simp [go_sem]); have x1 := hb.cell (a := ⟨w.heap.size + 1, 1, none⟩) (v := .int .u32 0) (by simp [go_sem]); have z0 := hb.cell (a := ⟨w.heap.size + 2, 0, none⟩) (v := .int .u8 0) (by simp [go_sem]); have z1 := hb.cell (a := ⟨w.heap.size + 2, 1, none⟩) (v := .int .u32 0) (by simp [go_sem]); have xf := fun o : Nat => hb.frz (a := ⟨w.heap.size + 1, o, none⟩) (by simp [go_sem]) (by simp [go_sem]); have zf := fun o : Nat => hb.frz (a := ⟨w.heap.size + 2, o, none⟩) (by simp [go_sem]) (by simp [go_sem]); have hk : Keeps w w1 := (by (repeat (first | with_reducible exact Keeps.refl _ | with_reducible assumption | with_reducible refine Keeps.alloc ?_ _ | with_reducible refine Keeps.drewN ?_ _ | with_reducible refine Keeps.drew ?_ | refine Keeps.setCell ?_ (by dsimp only; omega) _ | with_reducible refine Keeps.trans ?_ (by assumption)))))
  go_wp2_with fail
  (go_at_call 95; refine (HA.out _ (by (repeat (first | with_reducible exact Keeps.refl _ | with_reducible assumption | with_reducible refine Keeps.alloc ?_ _ | with_reducible refine Keeps.drewN ?_ _ | with_reducible refine Keeps.drew ?_ | refine Keeps.setCell ?_ (by dsimp only; omega) _ | with_reducible refine Keeps.trans ?_ (by assumption))))).mono ?_; rintro e w2 ⟨rfl, rfl⟩)
  go_wp2_with fail
  go_region
  all_goals go_wp2
  all_goals refine bodyPost_ret (v := .tuple #[.agg #[.int .u8 v.tag, .int .u32 v.to], .agg #[.int .u8 v.tag, .int .u32 v.to], .int .i64 0]) (by simp [results, Tryz.results56, go_sem, hz1, hz2, x0, x1, z0, z1]) rfl ⟨rfl, by (repeat (first | with_reducible exact Keeps.refl _ | with_reducible assumption | with_reducible refine Keeps.alloc ?_ _ | with_reducible refine Keeps.drewN ?_ _ | with_reducible refine Keeps.drew ?_ | refine Keeps.setCell ?_ (by dsimp only; omega) _ | with_reducible refine Keeps.trans ?_ (by assumption)))⟩


set_option maxRecDepth 100000 in
theorem rbview_up (sb : Nat) (l n : Int) (v : Edge) (x : Rec) (lb D len cap : Nat) (w : World) (hn : n ≤ 16) (hsb : sb < w.heap.size) (c3 : w.cell? ⟨sb, 3, none⟩ = some (.int .i64 n))
    (h0 : 0 ≤ l) (h1 : l < n)
    (hl : ∀ W, Keeps w W → Calls Tryz.prog 93 #[.pointer (some ⟨sb, 0, none⟩), .int .u8 1, .agg #[.int .u8 v.tag, .int .u32 v.to], .int .i64 l] W fun e w' => e = .returned (.bool true) ∧ Keeps W w')
    (hx : ¬ x.top = l) (hx1 : 0 ≤ x.top) (hx2 : x.top ≤ 255) (hx3 : 0 ≤ x.bot) (hx4 : x.bot ≤ 255)
    (c0 : w.cell? ⟨sb, 0, none⟩ = some (.slice (some ⟨lb, 0, none⟩) len cap)) (hD : D < len) (hlen : len ≤ 1048576)
    (s0 : w.cell? ⟨lb, D * 8 + 1, none⟩ = some (.int .u8 x.form)) (s1 : w.cell? ⟨lb, D * 8 + 2, none⟩ = some (.int .u8 x.top)) (s2 : w.cell? ⟨lb, D * 8 + 3, none⟩ = some (.int .u8 x.bot)) (s3 : w.cell? ⟨lb, D * 8 + 4, none⟩ = some (.int .u8 x.lo.tag)) (s4 : w.cell? ⟨lb, D * 8 + 5, none⟩ = some (.int .u32 x.lo.to)) (s5 : w.cell? ⟨lb, D * 8 + 6, none⟩ = some (.int .u8 x.hi.tag)) (s6 : w.cell? ⟨lb, D * 8 + 7, none⟩ = some (.int .u32 x.hi.to))
    (ha : ∀ W, Keeps w W → Calls Tryz.prog 95 #[.pointer (some ⟨sb, 0, none⟩), .int .u32 v.to] W fun e w' => e = .returned (.int .i64 (D : Int)) ∧ W = w')
    : Calls Tryz.prog 56 #[.pointer (some ⟨sb, 0, none⟩), .agg #[.int .u8 v.tag, .int .u32 v.to], .int .i64 l] w fun e w' => e = .returned (.tuple #[.agg #[.int .u8 v.tag, .int .u32 v.to], .agg #[.int .u8 v.tag, .int .u32 v.to], .int .i64 0]) ∧ Keeps w w' := by
  have HL := Lib.hid hl
  clear hl
  have hsb1 : sb < w.heap.size + 1 := by omega
  have hsb2 : sb < w.heap.size + 1 + 1 := by omega
  have HA := Lib.hid ha
  clear ha
  have hlb : lb < w.heap.size := lt_of_cell s0
  have HS := Lib.hid (And.intro c0 (And.intro s0 (And.intro s1 (And.intro s2 (And.intro s3 (And.intro s4 (And.intro s5 s6)))))))
  clear c0 s0 s1 s2 s3 s4 s5 s6
  have hxd : (x.top != l) = true := by simp [hx]
  have hxe : (x.top == l) = false := by simp [hx]
  go_enter Tryz.func56, Tryz.ntmps56
  go_wp2_with fail
  (go_at_call 93; refine (HL.out _ (by (repeat (first | with_reducible exact Keeps.refl _ | with_reducible assumption | with_reducible refine Keeps.alloc ?_ _ | with_reducible refine Keeps.drewN ?_ _ | with_reducible refine Keeps.drew ?_ | refine Keeps.setCell ?_ (by dsimp only; omega) _ | with_reducible refine Keeps.trans ?_ (by assumption))))).mono ?_; rintro e w1 ⟨rfl, hb⟩; have hsz := hb.size; simp only [World.size_alloc] at hsz; have hz0 : w.heap.size < w1.heap.size := (by omega); have hz1 : w.heap.size + 1 < w1.heap.size := (by omega); have hz2 : w.heap.size + 2 < w1.heap.size := (by omega); have y0 := hb.cell (a := ⟨w.heap.size, 0, none⟩) (v := .int .u8 v.tag) (by simp [go_sem]); have y1 := hb.cell (a := ⟨w.heap.size, 1, none⟩) (v := .int .u32 v.to) (by simp [go_sem]); have x0 := hb.cell (a := ⟨w.heap.size + 1, 0, none⟩) (v := .int .u8 0) (by simp [go_sem]); have x1 := hb.cell (a := ⟨w.heap.size + 1, 1, none⟩) (v := .int .u32 0) (by simp [go_sem]); have z0 := hb.cell (a := ⟨w.heap.size + 2, 0, none⟩) (v := .int .u8 0) (by simp [go_sem]); have z1 := hb.cell (a := ⟨w.heap.size + 2, 1, none⟩) (v := .int .u32 0) (by simp [go_sem]); have xf := fun o : Nat => hb.frz (a := ⟨w.heap.size + 1, o, none⟩) (by simp [go_sem]) (by simp [go_sem]); have zf := fun o : Nat => hb.frz (a := ⟨w.heap.size + 2, o, none⟩) (by simp [go_sem]) (by simp [go_sem]); have hk : Keeps w w1 := (by (repeat (first | with_reducible exact Keeps.refl _ | with_reducible assumption | with_reducible refine Keeps.alloc ?_ _ | with_reducible refine Keeps.drewN ?_ _ | with_reducible refine Keeps.drew ?_ | refine Keeps.setCell ?_ (by dsimp only; omega) _ | with_reducible refine Keeps.trans ?_ (by assumption)))))
  have hlb1 : lb < w1.heap.size := by omega
  have hsb1 : sb < w1.heap.size := by omega
  have d0 := hk.cell HS.out.1
  have u0 := hk.cell HS.out.2.1
  have u1 := hk.cell HS.out.2.2.1
  have u2 := hk.cell HS.out.2.2.2.1
  have u3 := hk.cell HS.out.2.2.2.2.1
  have u4 := hk.cell HS.out.2.2.2.2.2.1
  have u5 := hk.cell HS.out.2.2.2.2.2.2.1
  have u6 := hk.cell HS.out.2.2.2.2.2.2.2
  go_wp2_with fail
  (go_at_call 95; refine (HA.out _ (by (repeat (first | with_reducible exact Keeps.refl _ | with_reducible assumption | with_reducible refine Keeps.alloc ?_ _ | with_reducible refine Keeps.drewN ?_ _ | with_reducible refine Keeps.drew ?_ | refine Keeps.setCell ?_ (by dsimp only; omega) _ | with_reducible refine Keeps.trans ?_ (by assumption))))).mono ?_; rintro e w2 ⟨rfl, rfl⟩)
  go_wp2_with fail
  go_region
  all_goals go_wp2
  all_goals refine bodyPost_ret (v := .tuple #[.agg #[.int .u8 v.tag, .int .u32 v.to], .agg #[.int .u8 v.tag, .int .u32 v.to], .int .i64 0]) (by simp [results, Tryz.results56, go_sem, hz1, hz2, x0, x1, z0, z1]) rfl ⟨rfl, by (repeat (first | with_reducible exact Keeps.refl _ | with_reducible assumption | with_reducible refine Keeps.alloc ?_ _ | with_reducible refine Keeps.drewN ?_ _ | with_reducible refine Keeps.drew ?_ | refine Keeps.setCell ?_ (by dsimp only; omega) _ | with_reducible refine Keeps.trans ?_ (by assumption)))⟩


set_option maxRecDepth 100000 in
theorem rbview_at (sb : Nat) (l n : Int) (v : Edge) (x : Rec) (lb D len cap : Nat) (w : World) (hn : n ≤ 16) (hsb : sb < w.heap.size) (c3 : w.cell? ⟨sb, 3, none⟩ = some (.int .i64 n))
    (h0 : 0 ≤ l) (h1 : l < n)
    (hl : ∀ W, Keeps w W → Calls Tryz.prog 93 #[.pointer (some ⟨sb, 0, none⟩), .int .u8 1, .agg #[.int .u8 v.tag, .int .u32 v.to], .int .i64 l] W fun e w' => e = .returned (.bool true) ∧ Keeps W w')
     (hx1 : 0 ≤ x.top) (hx2 : x.top ≤ 255) (hx3 : 0 ≤ x.bot) (hx4 : x.bot ≤ 255)
    (c0 : w.cell? ⟨sb, 0, none⟩ = some (.slice (some ⟨lb, 0, none⟩) len cap)) (hD : D < len) (hlen : len ≤ 1048576)
    (s0 : w.cell? ⟨lb, D * 8 + 1, none⟩ = some (.int .u8 x.form)) (s1 : w.cell? ⟨lb, D * 8 + 2, none⟩ = some (.int .u8 l)) (s2 : w.cell? ⟨lb, D * 8 + 3, none⟩ = some (.int .u8 x.bot)) (s3 : w.cell? ⟨lb, D * 8 + 4, none⟩ = some (.int .u8 x.lo.tag)) (s4 : w.cell? ⟨lb, D * 8 + 5, none⟩ = some (.int .u32 x.lo.to)) (s5 : w.cell? ⟨lb, D * 8 + 6, none⟩ = some (.int .u8 x.hi.tag)) (s6 : w.cell? ⟨lb, D * 8 + 7, none⟩ = some (.int .u32 x.hi.to))
    (ha : ∀ W, Keeps w W → Calls Tryz.prog 95 #[.pointer (some ⟨sb, 0, none⟩), .int .u32 v.to] W fun e w' => e = .returned (.int .i64 (D : Int)) ∧ W = w')
    : Calls Tryz.prog 56 #[.pointer (some ⟨sb, 0, none⟩), .agg #[.int .u8 v.tag, .int .u32 v.to], .int .i64 l] w fun e w' => e = .returned (.tuple #[.agg #[.int .u8 x.lo.tag, .int .u32 x.lo.to], .agg #[.int .u8 x.hi.tag, .int .u32 x.hi.to], .int .i64 0]) ∧ Keeps w w' := by
  have HL := Lib.hid hl
  clear hl
  have hsb1 : sb < w.heap.size + 1 := by omega
  have hsb2 : sb < w.heap.size + 1 + 1 := by omega
  have HA := Lib.hid ha
  clear ha
  have hlb : lb < w.heap.size := lt_of_cell s0
  have HS := Lib.hid (And.intro c0 (And.intro s0 (And.intro s1 (And.intro s2 (And.intro s3 (And.intro s4 (And.intro s5 s6)))))))
  clear c0 s0 s1 s2 s3 s4 s5 s6
  go_enter Tryz.func56, Tryz.ntmps56
  go_wp2_with fail
  (go_at_call 93; refine (HL.out _ (by (repeat (first | with_reducible exact Keeps.refl _ | with_reducible assumption | with_reducible refine Keeps.alloc ?_ _ | with_reducible refine Keeps.drewN ?_ _ | with_reducible refine Keeps.drew ?_ | refine Keeps.setCell ?_ (by dsimp only; omega) _ | with_reducible refine Keeps.trans ?_ (by assumption))))).mono ?_; rintro e w1 ⟨rfl, hb⟩; have hsz := hb.size; simp only [World.size_alloc] at hsz; have hz0 : w.heap.size < w1.heap.size := (by omega); have hz1 : w.heap.size + 1 < w1.heap.size := (by omega); have hz2 : w.heap.size + 2 < w1.heap.size := (by omega); have y0 := hb.cell (a := ⟨w.heap.size, 0, none⟩) (v := .int .u8 v.tag) (by simp [go_sem]); have y1 := hb.cell (a := ⟨w.heap.size, 1, none⟩) (v := .int .u32 v.to) (by simp [go_sem]); have x0 := hb.cell (a := ⟨w.heap.size + 1, 0, none⟩) (v := .int .u8 0) (by simp [go_sem]); have x1 := hb.cell (a := ⟨w.heap.size + 1, 1, none⟩) (v := .int .u32 0) (by simp [go_sem]); have z0 := hb.cell (a := ⟨w.heap.size + 2, 0, none⟩) (v := .int .u8 0) (by simp [go_sem]); have z1 := hb.cell (a := ⟨w.heap.size + 2, 1, none⟩) (v := .int .u32 0) (by simp [go_sem]); have xf := fun o : Nat => hb.frz (a := ⟨w.heap.size + 1, o, none⟩) (by simp [go_sem]) (by simp [go_sem]); have zf := fun o : Nat => hb.frz (a := ⟨w.heap.size + 2, o, none⟩) (by simp [go_sem]) (by simp [go_sem]); have hk : Keeps w w1 := (by (repeat (first | with_reducible exact Keeps.refl _ | with_reducible assumption | with_reducible refine Keeps.alloc ?_ _ | with_reducible refine Keeps.drewN ?_ _ | with_reducible refine Keeps.drew ?_ | refine Keeps.setCell ?_ (by dsimp only; omega) _ | with_reducible refine Keeps.trans ?_ (by assumption)))))
  have hlb1 : lb < w1.heap.size := by omega
  have hsb1 : sb < w1.heap.size := by omega
  have d0 := hk.cell HS.out.1
  have u0 := hk.cell HS.out.2.1
  have u1 := hk.cell HS.out.2.2.1
  have u2 := hk.cell HS.out.2.2.2.1
  have u3 := hk.cell HS.out.2.2.2.2.1
  have u4 := hk.cell HS.out.2.2.2.2.2.1
  have u5 := hk.cell HS.out.2.2.2.2.2.2.1
  have u6 := hk.cell HS.out.2.2.2.2.2.2.2
  go_wp2_with fail
  (go_at_call 95; refine (HA.out _ (by (repeat (first | with_reducible exact Keeps.refl _ | with_reducible assumption | with_reducible refine Keeps.alloc ?_ _ | with_reducible refine Keeps.drewN ?_ _ | with_reducible refine Keeps.drew ?_ | refine Keeps.setCell ?_ (by dsimp only; omega) _ | with_reducible refine Keeps.trans ?_ (by assumption))))).mono ?_; rintro e w2 ⟨rfl, rfl⟩)
  go_wp2_with fail
  go_region
  all_goals go_wp2
  all_goals refine bodyPost_ret (v := .tuple #[.agg #[.int .u8 x.lo.tag, .int .u32 x.lo.to], .agg #[.int .u8 x.hi.tag, .int .u32 x.hi.to], .int .i64 0]) (by simp [results, Tryz.results56, go_sem, hz1, hz2, x0, x1, z0, z1]) rfl ⟨rfl, by (repeat (first | with_reducible exact Keeps.refl _ | with_reducible assumption | with_reducible refine Keeps.alloc ?_ _ | with_reducible refine Keeps.drewN ?_ _ | with_reducible refine Keeps.drew ?_ | refine Keeps.setCell ?_ (by dsimp only; omega) _ | with_reducible refine Keeps.trans ?_ (by assumption)))⟩


end Go.Proofs.YtnkehgohamjpaaaGreat

/-
  The walk of ref13.View, case by case (printed by wip/mk_view.py).
-/
namespace Go.Proofs.YtnkehgohamjpaaaGreat
set_option linter.unusedSimpArgs false
set_option linter.unusedVariables false
set_option maxHeartbeats 600000
open Go.RowKit

set_option maxRecDepth 100000 in
theorem rzview_neg (sb : Nat) (l n : Int) (v : Edge) (w : World) (hn : n ≤ 16) (hsb : sb < w.heap.size) (c3 : w.cell? ⟨sb, 3, none⟩ = some (.int .i64 n))
    (h0 : l < 0)
    : Calls Tryz.prog 57 #[.pointer (some ⟨sb, 0, none⟩), .agg #[.int .u8 v.tag, .int .u32 v.to], .int .i64 l] w fun e w' => e = .returned (.tuple #[.agg #[.int .u8 0, .int .u32 0], .agg #[.int .u8 0, .int .u32 0], .int .i64 3]) ∧ Keeps w w' := by
  have hsb1 : sb < w.heap.size + 1 := by omega
  have hsb2 : sb < w.heap.size + 1 + 1 := by omega
  go_enter Tryz.func57, Tryz.ntmps57
  go_wp2_with fail
  all_goals refine bodyPost_ret (v := .tuple #[.agg #[.int .u8 0, .int .u32 0], .agg #[.int .u8 0, .int .u32 0], .int .i64 3]) (by simp [results, Tryz.results57, go_sem]) rfl ⟨rfl, by (repeat (first | with_reducible exact Keeps.refl _ | with_reducible assumption | with_reducible refine Keeps.alloc ?_ _ | with_reducible refine Keeps.drewN ?_ _ | with_reducible refine Keeps.drew ?_ | refine Keeps.setCell ?_ (by dsimp only; omega) _ | with_reducible refine Keeps.trans ?_ (by assumption)))⟩


set_option maxRecDepth 100000 in
theorem rzview_big (sb : Nat) (l n : Int) (v : Edge) (w : World) (hn : n ≤ 16) (hsb : sb < w.heap.size) (c3 : w.cell? ⟨sb, 3, none⟩ = some (.int .i64 n))
    (h0 : 0 ≤ l) (h1 : n ≤ l)
    : Calls Tryz.prog 57 #[.pointer (some ⟨sb, 0, none⟩), .agg #[.int .u8 v.tag, .int .u32 v.to], .int .i64 l] w fun e w' => e = .returned (.tuple #[.agg #[.int .u8 0, .int .u32 0], .agg #[.int .u8 0, .int .u32 0], .int .i64 3]) ∧ Keeps w w' := by
  have hsb1 : sb < w.heap.size + 1 := by omega
  have hsb2 : sb < w.heap.size + 1 + 1 := by omega
  go_enter Tryz.func57, Tryz.ntmps57
  go_wp2_with fail
  all_goals refine bodyPost_ret (v := .tuple #[.agg #[.int .u8 0, .int .u32 0], .agg #[.int .u8 0, .int .u32 0], .int .i64 3]) (by simp [results, Tryz.results57, go_sem]) rfl ⟨rfl, by (repeat (first | with_reducible exact Keeps.refl _ | with_reducible assumption | with_reducible refine Keeps.alloc ?_ _ | with_reducible refine Keeps.drewN ?_ _ | with_reducible refine Keeps.drew ?_ | refine Keeps.setCell ?_ (by dsimp only; omega) _ | with_reducible refine Keeps.trans ?_ (by assumption)))⟩


set_option maxRecDepth 100000 in
theorem rzview_no (sb : Nat) (l n : Int) (v : Edge) (w : World) (hn : n ≤ 16) (hsb : sb < w.heap.size) (c3 : w.cell? ⟨sb, 3, none⟩ = some (.int .i64 n))
    (h0 : 0 ≤ l) (h1 : l < n)
    (hl : ∀ W, Keeps w W → Calls Tryz.prog 93 #[.pointer (some ⟨sb, 0, none⟩), .int .u8 2, .agg #[.int .u8 v.tag, .int .u32 v.to], .int .i64 l] W fun e w' => e = .returned (.bool false) ∧ Keeps W w')
    : Calls Tryz.prog 57 #[.pointer (some ⟨sb, 0, none⟩), .agg #[.int .u8 v.tag, .int .u32 v.to], .int .i64 l] w fun e w' => e = .returned (.tuple #[.agg #[.int .u8 0, .int .u32 0], .agg #[.int .u8 0, .int .u32 0], .int .i64 1]) ∧ Keeps w w' := by
  have HL := Lib.hid hl
  clear hl
  have hsb1 : sb < w.heap.size + 1 := by omega
  have hsb2 : sb < w.heap.size + 1 + 1 := by omega
  go_enter Tryz.func57, Tryz.ntmps57
  go_wp2_with fail
  (go_at_call 93; refine (HL.out _ (by (repeat (first | with_reducible exact Keeps.refl _ | with_reducible assumption | with_reducible refine Keeps.alloc ?_ _ | with_reducible refine Keeps.drewN ?_ _ | with_reducible refine Keeps.drew ?_ | refine Keeps.setCell ?_ (by dsimp only; omega) _ | with_reducible refine Keeps.trans ?_ (by assumption))))).mono ?_; rintro e w1 ⟨rfl, hb⟩; have hsz := hb.size; simp only [World.size_alloc] at hsz; have hz0 : w.heap.size < w1.heap.size := (by omega); have hz1 : w.heap.size + 1 < w1.heap.size := (by omega); have hz2 : w.heap.size + 2 < w1.heap.size := (by omega); have y0 := hb.cell (a := ⟨w.heap.size, 0, none⟩) (v := .int .u8 v.tag) (by simp [go_sem]); have y1 := hb.cell (a := ⟨w.heap.size, 1, none⟩) (v := .int .u32 v.to) (by simp [go_sem]); have x0 := hb.cell (a := ⟨w.heap.size + 1, 0, none⟩) (v := .int .u8 0) (by simp [go_sem]); have x1 := hb.cell (a := ⟨w.heap.size + 1, 1, none⟩) (v := .int .u32 0) (by simp [go_sem]); have z0 := hb.cell (a := ⟨w.heap.size + 2, 0, none⟩) (v := .int .u8 0) (by simp [go_sem]); have z1 := hb.cell (a := ⟨w.heap.size + 2, 1, none⟩) (v := .int .u32 0) (by simp [go_sem]); have xf := fun o : Nat => hb.frz (a := ⟨w.heap.size + 1, o, none⟩) (by simp [go_sem]) (by simp [go_sem]); have zf := fun o : Nat => hb.frz (a := ⟨w.heap.size + 2, o, none⟩) (by simp [go_sem]) (by simp [go_sem]); have hk : Keeps w w1 := (by (repeat (first | with_reducible exact Keeps.refl _ | with_reducible assumption | with_reducible refine Keeps.alloc ?_ _ | with_reducible refine Keeps.drewN ?_ _ | with_reducible refine Keeps.drew ?_ | refine Keeps.setCell ?_ (by dsimp only; omega) _ | with_reducible refine Keeps.trans ?_ (by assumption)))))
  go_wp2_with fail
  all_goals refine bodyPost_ret (v := .tuple #[.agg #[.int .u8 0, .int .u32 0], .agg #[.int .u8 0, .int .u32 0], .int .i64 1]) (by simp [results, Tryz.results57, go_sem, hz1, hz2, x0, x1, z0, z1]) rfl ⟨rfl, by (repeat (first | with_reducible exact Keeps.refl _ | with_reducible assumption | with_reducible refine Keeps.alloc ?_ _ | with_reducible refine Keeps.drewN ?_ _ | with_reducible refine Keeps.drew ?_ | refine Keeps.setCell ?_ (by dsimp only; omega) _ | with_reducible refine Keeps.trans ?_ (by assumption)))⟩


set_option maxRecDepth 100000 in
theorem rzview_none (sb : Nat) (l n : Int) (v : Edge) (w : World) (hn : n ≤ 16) (hsb : sb < w.heap.size) (c3 : w.cell? ⟨sb, 3, none⟩ = some (.int .i64 n))
    (h0 : 0 ≤ l) (h1 : l < n)
    (hl : ∀ W, Keeps w W → Calls Tryz.prog 93 #[.pointer (some ⟨sb, 0, none⟩), .int .u8 2, .agg #[.int .u8 v.tag, .int .u32 v.to], .int .i64 l] W fun e w' => e = .returned (.bool true) ∧ Keeps W w')
    (ha : ∀ W, Keeps w W → Calls Tryz.prog 95 #[.pointer (some ⟨sb, 0, none⟩), .int .u32 v.to] W fun e w' => e = .returned (.int .i64 (-1)) ∧ W = w')
    : Calls Tryz.prog 57 #[.pointer (some ⟨sb, 0, none⟩), .agg #[.int .u8 v.tag, .int .u32 v.to], .int .i64 l] w fun e w' => e = .returned (.tuple #[.agg #[.int .u8 v.tag, .int .u32 v.to], .agg #[.int .u8 0, .int .u32 0], .int .i64 0]) ∧ Keeps w w' := by
  have HL := Lib.hid hl
  clear hl
  have hsb1 : sb < w.heap.size + 1 := by omega
  have hsb2 : sb < w.heap.size + 1 + 1 := by omega
  have HA := Lib.hid ha
  clear ha
  go_enter Tryz.func57, Tryz.ntmps57
  go_wp2_with fail
  (go_at_call 93; refine (HL.out _ (by (repeat (first | with_reducible exact Keeps.refl _ | with_reducible assumption | with_reducible refine Keeps.alloc ?_ _ | with_reducible refine Keeps.drewN ?_ _ | with_reducible refine Keeps.drew ?_ | refine Keeps.setCell ?_ (by dsimp only; omega) _ | with_reducible refine Keeps.trans ?_ (by assumption))))).mono ?_; rintro e w1 ⟨rfl, hb⟩; have hsz := hb.size; simp only [World.size_alloc] at hsz; have hz0 : w.heap.size < w1.heap.size := (by omega); have hz1 : w.heap.size + 1 < w1.heap.size := (by omega); have hz2 : w.heap.size + 2 < w1.heap.size := (by omega); have y0 := hb.cell (a := ⟨w.heap.size, 0, none⟩) (v := .int .u8 v.tag) (by simp [go_sem]); have y1 := hb.cell (a := ⟨w.heap.size, 1, none⟩) (v := .int .u32 v.to) (by simp [go_sem]); have x0 := hb.cell (a := ⟨w.heap.size + 1, 0, none⟩) (v := .int .u8 0) (by simp [go_sem]); have x1 := hb.cell (a := ⟨w.heap.size + 1, 1, none⟩) (v := .int .u32 0) (by simp [go_sem]); have z0 := hb.cell (a := ⟨w.heap.size + 2, 0, none⟩) (v := .int .u8 0) (by simp [go_sem]); have z1 := hb.cell (a := ⟨w.heap.size + 2, 1, none⟩) (v := .int .u32 0) (by simp [go_sem]); have xf := fun o : Nat => hb.frz (a := ⟨w.heap.size + 1, o, none⟩) (by simp [go_sem]) (by simp [go_sem]); have zf := fun o : Nat => hb.frz (a := ⟨w.heap.size + 2, o, none⟩) (by simp [go_sem]) (by simp [go_sem]); have hk : Keeps w w1 := (by (repeat (first | with_reducible exact Keeps.refl _ | with_reducible assumption | with_reducible refine Keeps.alloc ?_ _ | with_reducible refine Keeps.drewN ?_ _ | with_reducible refine Keeps.drew ?_ | refine Keeps.setCell ?_ (by dsimp only; omega) _ | with_reducible refine Keeps.trans ?_ (by assumption)))))
  go_wp2_with fail
  (go_at_call 95; refine (HA.out _ (by (repeat (first | with_reducible exact Keeps.refl _ | with_reducible assumption | with_reducible refine Keeps.alloc ?_ _ | with_reducible refine Keeps.drewN ?_ _ | with_reducible refine Keeps.drew ?_ | refine Keeps.setCell ?_ (by dsimp only; omega) _ | with_reducible refine Keeps.trans ?_ (by assumption))))).mono ?_; rintro e w2 ⟨rfl, rfl⟩)
  go_wp2_with fail
  all_goals refine bodyPost_ret (v := .tuple #[.agg #[.int .u8 v.tag, .int .u32 v.to], .agg #[.int .u8 0, .int .u32 0], .int .i64 0]) (by simp [results, Tryz.results57, go_sem, hz1, hz2, x0, x1, z0, z1]) rfl ⟨rfl, by (repeat (first | with_reducible exact Keeps.refl _ | with_reducible assumption | with_reducible refine Keeps.alloc ?_ _ | with_reducible refine Keeps.drewN ?_ _ | with_reducible refine Keeps.drew ?_ | refine Keeps.setCell ?_ (by dsimp only; omega) _ | with_reducible refine Keeps.trans ?_ (by assumption)))⟩


set_option maxRecDepth 100000 in
theorem rzview_up (sb : Nat) (l n : Int) (v : Edge) (x : Rec) (lb D len cap : Nat) (w : World) (hn : n ≤ 16) (hsb : sb < w.heap.size) (c3 : w.cell? ⟨sb, 3, none⟩ = some (.int .i64 n))
    (h0 : 0 ≤ l) (h1 : l < n)
    (hl : ∀ W, Keeps w W → Calls Tryz.prog 93 #[.pointer (some ⟨sb, 0, none⟩), .int .u8 2, .agg #[.int .u8 v.tag, .int .u32 v.to], .int .i64 l] W fun e w' => e = .returned (.bool true) ∧ Keeps W w')
    (hx : ¬ x.top = l) (hx1 : 0 ≤ x.top) (hx2 : x.top ≤ 255) (hx3 : 0 ≤ x.bot) (hx4 : x.bot ≤ 255)
    (c0 : w.cell? ⟨sb, 0, none⟩ = some (.slice (some ⟨lb, 0, none⟩) len cap)) (hD : D < len) (hlen : len ≤ 1048576)
    (s0 : w.cell? ⟨lb, D * 8 + 1, none⟩ = some (.int .u8 x.form)) (s1 : w.cell? ⟨lb, D * 8 + 2, none⟩ = some (.int .u8 x.top)) (s2 : w.cell? ⟨lb, D * 8 + 3, none⟩ = some (.int .u8 x.bot)) (s3 : w.cell? ⟨lb, D * 8 + 4, none⟩ = some (.int .u8 x.lo.tag)) (s4 : w.cell? ⟨lb, D * 8 + 5, none⟩ = some (.int .u32 x.lo.to)) (s5 : w.cell? ⟨lb, D * 8 + 6, none⟩ = some (.int .u8 x.hi.tag)) (s6 : w.cell? ⟨lb, D * 8 + 7, none⟩ = some (.int .u32 x.hi.to))
    (ha : ∀ W, Keeps w W → Calls Tryz.prog 95 #[.pointer (some ⟨sb, 0, none⟩), .int .u32 v.to] W fun e w' => e = .returned (.int .i64 (D : Int)) ∧ W = w')
    : Calls Tryz.prog 57 #[.pointer (some ⟨sb, 0, none⟩), .agg #[.int .u8 v.tag, .int .u32 v.to], .int .i64 l] w fun e w' => e = .returned (.tuple #[.agg #[.int .u8 v.tag, .int .u32 v.to], .agg #[.int .u8 0, .int .u32 0], .int .i64 0]) ∧ Keeps w w' := by
  have HL := Lib.hid hl
  clear hl
  have hsb1 : sb < w.heap.size + 1 := by omega
  have hsb2 : sb < w.heap.size + 1 + 1 := by omega
  have HA := Lib.hid ha
  clear ha
  have hlb : lb < w.heap.size := lt_of_cell s0
  have HS := Lib.hid (And.intro c0 (And.intro s0 (And.intro s1 (And.intro s2 (And.intro s3 (And.intro s4 (And.intro s5 s6)))))))
  clear c0 s0 s1 s2 s3 s4 s5 s6
  have hxd : (x.top != l) = true := by simp [hx]
  have hxe : (x.top == l) = false := by simp [hx]
  go_enter Tryz.func57, Tryz.ntmps57
  go_wp2_with fail
  (go_at_call 93; refine (HL.out _ (by (repeat (first | with_reducible exact Keeps.refl _ | with_reducible assumption | with_reducible refine Keeps.alloc ?_ _ | with_reducible refine Keeps.drewN ?_ _ | with_reducible refine Keeps.drew ?_ | refine Keeps.setCell ?_ (by dsimp only; omega) _ | with_reducible refine Keeps.trans ?_ (by assumption))))).mono ?_; rintro e w1 ⟨rfl, hb⟩; have hsz := hb.size; simp only [World.size_alloc] at hsz; have hz0 : w.heap.size < w1.heap.size := (by omega); have hz1 : w.heap.size + 1 < w1.heap.size := (by omega); have hz2 : w.heap.size + 2 < w1.heap.size := (by omega); have y0 := hb.cell (a := ⟨w.heap.size, 0, none⟩) (v := .int .u8 v.tag) (by simp [go_sem]); have y1 := hb.cell (a := ⟨w.heap.size, 1, none⟩) (v := .int .u32 v.to) (by simp [go_sem]); have x0 := hb.cell (a := ⟨w.heap.size + 1, 0, none⟩) (v := .int .u8 0) (by simp [go_sem]); have x1 := hb.cell (a := ⟨w.heap.size + 1, 1, none⟩) (v := .int .u32 0) (by simp [go_sem]); have z0 := hb.cell (a := ⟨w.heap.size + 2, 0, none⟩) (v := .int .u8 0) (by simp [go_sem]); have z1 := hb.cell (a := ⟨w.heap.size + 2, 1, none⟩) (v := .int .u32 0) (by simp [go_sem]); have xf := fun o : Nat => hb.frz (a := ⟨w.heap.size + 1, o, none⟩) (by simp [go_sem]) (by simp [go_sem]); have zf := fun o : Nat => hb.frz (a := ⟨w.heap.size + 2, o, none⟩) (by simp [go_sem]) (by simp [go_sem]); have hk : Keeps w w1 := (by (repeat (first | with_reducible exact Keeps.refl _ | with_reducible assumption | with_reducible refine Keeps.alloc ?_ _ | with_reducible refine Keeps.drewN ?_ _ | with_reducible refine Keeps.drew ?_ | refine Keeps.setCell ?_ (by dsimp only; omega) _ | with_reducible refine Keeps.trans ?_ (by assumption)))))
  have hlb1 : lb < w1.heap.size := by omega
  have hsb1 : sb < w1.heap.size := by omega
  have d0 := hk.cell HS.out.1
  have u0 := hk.cell HS.out.2.1
  have u1 := hk.cell HS.out.2.2.1
  have u2 := hk.cell HS.out.2.2.2.1
  have u3 := hk.cell HS.out.2.2.2.2.1
  have u4 := hk.cell HS.out.2.2.2.2.2.1
  have u5 := hk.cell HS.out.2.2.2.2.2.2.1
  have u6 := hk.cell HS.out.2.2.2.2.2.2.2
  go_wp2_with fail
  (go_at_call 95; refine (HA.out _ (by (repeat (first | with_reducible exact Keeps.refl _ | with_reducible assumption | with_reducible refine Keeps.alloc ?_ _ | with_reducible refine Keeps.drewN ?_ _ | with_reducible refine Keeps.drew ?_ | refine Keeps.setCell ?_ (by dsimp only; omega) _ | with_reducible refine Keeps.trans ?_ (by assumption))))).mono ?_; rintro e w2 ⟨rfl, rfl⟩)
  go_wp2_with fail
  all_goals refine bodyPost_ret (v := .tuple #[.agg #[.int .u8 v.tag, .int .u32 v.to], .agg #[.int .u8 0, .int .u32 0], .int .i64 0]) (by simp [results, Tryz.results57, go_sem, hz1, hz2, x0, x1, z0, z1]) rfl ⟨rfl, by (repeat (first | with_reducible exact Keeps.refl _ | with_reducible assumption | with_reducible refine Keeps.alloc ?_ _ | with_reducible refine Keeps.drewN ?_ _ | with_reducible refine Keeps.drew ?_ | refine Keeps.setCell ?_ (by dsimp only; omega) _ | with_reducible refine Keeps.trans ?_ (by assumption)))⟩


set_option maxRecDepth 100000 in
theorem rzview_at (sb : Nat) (l n : Int) (v : Edge) (x : Rec) (lb D len cap : Nat) (w : World) (hn : n ≤ 16) (hsb : sb < w.heap.size) (c3 : w.cell? ⟨sb, 3, none⟩ = some (.int .i64 n))
    (h0 : 0 ≤ l) (h1 : l < n)
    (hl : ∀ W, Keeps w W → Calls Tryz.prog 93 #[.pointer (some ⟨sb, 0, none⟩), .int .u8 2, .agg #[.int .u8 v.tag, .int .u32 v.to], .int .i64 l] W fun e w' => e = .returned (.bool true) ∧ Keeps W w')
     (hx1 : 0 ≤ x.top) (hx2 : x.top ≤ 255) (hx3 : 0 ≤ x.bot) (hx4 : x.bot ≤ 255)
    (c0 : w.cell? ⟨sb, 0, none⟩ = some (.slice (some ⟨lb, 0, none⟩) len cap)) (hD : D < len) (hlen : len ≤ 1048576)
    (s0 : w.cell? ⟨lb, D * 8 + 1, none⟩ = some (.int .u8 x.form)) (s1 : w.cell? ⟨lb, D * 8 + 2, none⟩ = some (.int .u8 l)) (s2 : w.cell? ⟨lb, D * 8 + 3, none⟩ = some (.int .u8 x.bot)) (s3 : w.cell? ⟨lb, D * 8 + 4, none⟩ = some (.int .u8 x.lo.tag)) (s4 : w.cell? ⟨lb, D * 8 + 5, none⟩ = some (.int .u32 x.lo.to)) (s5 : w.cell? ⟨lb, D * 8 + 6, none⟩ = some (.int .u8 x.hi.tag)) (s6 : w.cell? ⟨lb, D * 8 + 7, none⟩ = some (.int .u32 x.hi.to))
    (ha : ∀ W, Keeps w W → Calls Tryz.prog 95 #[.pointer (some ⟨sb, 0, none⟩), .int .u32 v.to] W fun e w' => e = .returned (.int .i64 (D : Int)) ∧ W = w')
    : Calls Tryz.prog 57 #[.pointer (some ⟨sb, 0, none⟩), .agg #[.int .u8 v.tag, .int .u32 v.to], .int .i64 l] w fun e w' => e = .returned (.tuple #[.agg #[.int .u8 x.lo.tag, .int .u32 x.lo.to], .agg #[.int .u8 x.hi.tag, .int .u32 x.hi.to], .int .i64 0]) ∧ Keeps w w' := by
  have HL := Lib.hid hl
  clear hl
  have hsb1 : sb < w.heap.size + 1 := by omega
  have hsb2 : sb < w.heap.size + 1 + 1 := by omega
  have HA := Lib.hid ha
  clear ha
  have hlb : lb < w.heap.size := lt_of_cell s0
  have HS := Lib.hid (And.intro c0 (And.intro s0 (And.intro s1 (And.intro s2 (And.intro s3 (And.intro s4 (And.intro s5 s6)))))))
  clear c0 s0 s1 s2 s3 s4 s5 s6
  go_enter Tryz.func57, Tryz.ntmps57
  go_wp2_with fail
  (go_at_call 93; refine (HL.out _ (by (repeat (first | with_reducible exact Keeps.refl _ | with_reducible assumption | with_reducible refine Keeps.alloc ?_ _ | with_reducible refine Keeps.drewN ?_ _ | with_reducible refine Keeps.drew ?_ | refine Keeps.setCell ?_ (by dsimp only; omega) _ | with_reducible refine Keeps.trans ?_ (by assumption))))).mono ?_; rintro e w1 ⟨rfl, hb⟩; have hsz := hb.size; simp only [World.size_alloc] at hsz; have hz0 : w.heap.size < w1.heap.size := (by omega); have hz1 : w.heap.size + 1 < w1.heap.size := (by omega); have hz2 : w.heap.size + 2 < w1.heap.size := (by omega); have y0 := hb.cell (a := ⟨w.heap.size, 0, none⟩) (v := .int .u8 v.tag) (by simp [go_sem]); have y1 := hb.cell (a := ⟨w.heap.size, 1, none⟩) (v := .int .u32 v.to) (by simp [go_sem]); have x0 := hb.cell (a := ⟨w.heap.size + 1, 0, none⟩) (v := .int .u8 0) (by simp [go_sem]); have x1 := hb.cell (a := ⟨w.heap.size + 1, 1, none⟩) (v := .int .u32 0) (by simp [go_sem]); have z0 := hb.cell (a := ⟨w.heap.size + 2, 0, none⟩) (v := .int .u8 0) (by simp [go_sem]); have z1 := hb.cell (a := ⟨w.heap.size + 2, 1, none⟩) (v := .int .u32 0) (by simp [go_sem]); have xf := fun o : Nat => hb.frz (a := ⟨w.heap.size + 1, o, none⟩) (by simp [go_sem]) (by simp [go_sem]); have zf := fun o : Nat => hb.frz (a := ⟨w.heap.size + 2, o, none⟩) (by simp [go_sem]) (by simp [go_sem]); have hk : Keeps w w1 := (by (repeat (first | with_reducible exact Keeps.refl _ | with_reducible assumption | with_reducible refine Keeps.alloc ?_ _ | with_reducible refine Keeps.drewN ?_ _ | with_reducible refine Keeps.drew ?_ | refine Keeps.setCell ?_ (by dsimp only; omega) _ | with_reducible refine Keeps.trans ?_ (by assumption)))))
  have hlb1 : lb < w1.heap.size := by omega
  have hsb1 : sb < w1.heap.size := by omega
  have d0 := hk.cell HS.out.1
  have u0 := hk.cell HS.out.2.1
  have u1 := hk.cell HS.out.2.2.1
  have u2 := hk.cell HS.out.2.2.2.1
  have u3 := hk.cell HS.out.2.2.2.2.1
  have u4 := hk.cell HS.out.2.2.2.2.2.1
  have u5 := hk.cell HS.out.2.2.2.2.2.2.1
  have u6 := hk.cell HS.out.2.2.2.2.2.2.2
  go_wp2_with fail
  (go_at_call 95; refine (HA.out _ (by (repeat (first | with_reducible exact Keeps.refl _ | with_reducible assumption | with_reducible refine Keeps.alloc ?_ _ | with_reducible refine Keeps.drewN ?_ _ | with_reducible refine Keeps.drew ?_ | refine Keeps.setCell ?_ (by dsimp only; omega) _ | with_reducible refine Keeps.trans ?_ (by assumption))))).mono ?_; rintro e w2 ⟨rfl, rfl⟩)
  go_wp2_with fail
  go_region
  all_goals go_wp2
  all_goals refine bodyPost_ret (v := .tuple #[.agg #[.int .u8 x.lo.tag, .int .u32 x.lo.to], .agg #[.int .u8 x.hi.tag, .int .u32 x.hi.to], .int .i64 0]) (by simp [results, Tryz.results57, go_sem, hz1, hz2, x0, x1, z0, z1]) rfl ⟨rfl, by (repeat (first | with_reducible exact Keeps.refl _ | with_reducible assumption | with_reducible refine Keeps.alloc ?_ _ | with_reducible refine Keeps.drewN ?_ _ | with_reducible refine Keeps.drew ?_ | refine Keeps.setCell ?_ (by dsimp only; omega) _ | with_reducible refine Keeps.trans ?_ (by assumption)))⟩


end Go.Proofs.YtnkehgohamjpaaaGreat
