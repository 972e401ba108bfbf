/-
  The walk of tbdd.View, case by case (printed by wip/mk_view.py).
-/
import Derived.Test.YtoeoehbpahodnaaPOrderC
namespace Go.Proofs.Ytoeoehbpahodnaa
set_option linter.unusedSimpArgs false
set_option linter.unusedVariables false
set_option maxHeartbeats 600000
open Go.RowKit

set_option maxRecDepth 100000 in
theorem tview_neg (sb : Nat) (l n : Int) (v : Edge) (w : World) (hn : n ≤ 16) (hsb : sb < w.heap.size)
    (hv : ∀ W, Keeps w W → Calls Try.prog 36 #[.pointer (some ⟨sb, 0, none⟩)] W fun e w' => e = .returned (.int .i64 n) ∧ W = w')
    (h0 : l < 0)
    : Calls Try.prog 107 #[.pointer (some ⟨sb, 0, none⟩), .agg #[.int .u8 v.tag, .int .u32 v.to], .int .i64 l] w fun e w' => e = .returned (.tuple #[.agg #[.int .u8 0, .int .u32 0], .agg #[.int .u8 0, .int .u32 0], .int .u8 3]) ∧ Keeps w w' := by
  have HV := Lib.hid hv
  clear hv
  go_enter Try.func107, Try.ntmps107
  go_wp2_with (first | (go_at_call 36; refine (HV.out _ (by (exact kp))).mono ?_; rintro e w' ⟨rfl, rfl⟩) | fail)
  go_region
  all_goals go_wp2
  all_goals refine bodyPost_ret (v := .tuple #[.agg #[.int .u8 0, .int .u32 0], .agg #[.int .u8 0, .int .u32 0], .int .u8 3]) (by simp [results, Try.results107, go_sem]) rfl ⟨rfl, by (exact kp)⟩

set_option maxRecDepth 100000 in
theorem tview_big (sb : Nat) (l n : Int) (v : Edge) (w : World) (hn : n ≤ 16) (hsb : sb < w.heap.size)
    (hv : ∀ W, Keeps w W → Calls Try.prog 36 #[.pointer (some ⟨sb, 0, none⟩)] W fun e w' => e = .returned (.int .i64 n) ∧ W = w')
    (h0 : 0 ≤ l) (h1 : n ≤ l)
    : Calls Try.prog 107 #[.pointer (some ⟨sb, 0, none⟩), .agg #[.int .u8 v.tag, .int .u32 v.to], .int .i64 l] w fun e w' => e = .returned (.tuple #[.agg #[.int .u8 0, .int .u32 0], .agg #[.int .u8 0, .int .u32 0], .int .u8 3]) ∧ Keeps w w' := by
  have HV := Lib.hid hv
  clear hv
  go_enter Try.func107, Try.ntmps107
  go_wp2_with (first | (go_at_call 36; refine (HV.out _ (by (exact kp))).mono ?_; rintro e w' ⟨rfl, rfl⟩) | fail)
  go_region
  all_goals go_wp2
  all_goals refine bodyPost_ret (v := .tuple #[.agg #[.int .u8 0, .int .u32 0], .agg #[.int .u8 0, .int .u32 0], .int .u8 3]) (by simp [results, Try.results107, go_sem]) rfl ⟨rfl, by (exact kp)⟩

set_option maxRecDepth 100000 in
theorem tview_no (sb : Nat) (l n : Int) (v : Edge) (w : World) (hn : n ≤ 16) (hsb : sb < w.heap.size)
    (hv : ∀ W, Keeps w W → Calls Try.prog 36 #[.pointer (some ⟨sb, 0, none⟩)] W fun e w' => e = .returned (.int .i64 n) ∧ W = w')
    (h0 : 0 ≤ l) (h1 : l < n)
    (hl : ∀ W, Keeps w W → Calls Try.prog 60 #[.pointer (some ⟨sb, 0, none⟩), .int .u8 5, .agg #[.int .u8 v.tag, .int .u32 v.to], .int .i64 l] W fun e w' => e = .returned (.bool false) ∧ Keeps W w')
    : Calls Try.prog 107 #[.pointer (some ⟨sb, 0, none⟩), .agg #[.int .u8 v.tag, .int .u32 v.to], .int .i64 l] w fun e w' => e = .returned (.tuple #[.agg #[.int .u8 0, .int .u32 0], .agg #[.int .u8 0, .int .u32 0], .int .u8 1]) ∧ Keeps w w' := by
  have HV := Lib.hid hv
  clear hv
  have HL := Lib.hid hl
  clear hl
  go_enter Try.func107, Try.ntmps107
  go_wp2_with (first | (go_at_call 36; refine (HV.out _ (by (exact kp))).mono ?_; rintro e w' ⟨rfl, rfl⟩) | fail)
  (go_at_call 60; refine (HL.out _ (by (exact kp))).mono ?_; rintro e w1 ⟨rfl, hb⟩; have hsz := hb.size; simp only [World.size_alloc] at hsz; have hz0 : w.heap.size < w1.heap.size := (by omega); have hz1 : w.heap.size + 1 < w1.heap.size := (by omega); have hz2 : w.heap.size + 2 < w1.heap.size := (by omega); have y0 := hb.cell (a := ⟨w.heap.size, 0, none⟩) (v := .int .u8 v.tag) (by simp [go_sem]); have y1 := hb.cell (a := ⟨w.heap.size, 1, none⟩) (v := .int .u32 v.to) (by simp [go_sem]); have x0 := hb.cell (a := ⟨w.heap.size + 1, 0, none⟩) (v := .int .u8 0) (by simp [go_sem]); have x1 := hb.cell (a := ⟨w.heap.size + 1, 1, none⟩) (v := .int .u32 0) (by simp [go_sem]); have z0 := hb.cell (a := ⟨w.heap.size + 2, 0, none⟩) (v := .int .u8 0) (by simp [go_sem]); have z1 := hb.cell (a := ⟨w.heap.size + 2, 1, none⟩) (v := .int .u32 0) (by simp [go_sem]); have xf := fun o : Nat => hb.frz (a := ⟨w.heap.size + 1, o, none⟩) (by simp [go_sem]) (by simp [go_sem]); have zf := fun o : Nat => hb.frz (a := ⟨w.heap.size + 2, o, none⟩) (by simp [go_sem]) (by simp [go_sem]); have hk : Keeps w w1 := (by (exact kp)))
  go_wp2_with fail
  go_region
  all_goals go_wp2
  all_goals refine bodyPost_ret (v := .tuple #[.agg #[.int .u8 0, .int .u32 0], .agg #[.int .u8 0, .int .u32 0], .int .u8 1]) (by simp [results, Try.results107, go_sem, hz1, hz2, x0, x1, z0, z1]) rfl ⟨rfl, by (exact kp)⟩

set_option maxRecDepth 100000 in
theorem tview_zero (sb : Nat) (l n : Int) (t : Int) (w : World) (hn : n ≤ 16) (hsb : sb < w.heap.size)
    (hv : ∀ W, Keeps w W → Calls Try.prog 36 #[.pointer (some ⟨sb, 0, none⟩)] W fun e w' => e = .returned (.int .i64 n) ∧ W = w')
    (h0 : 0 ≤ l) (h1 : l < n)
    (hl : ∀ W, Keeps w W → Calls Try.prog 60 #[.pointer (some ⟨sb, 0, none⟩), .int .u8 5, .agg #[.int .u8 t, .int .u32 0], .int .i64 l] W fun e w' => e = .returned (.bool true) ∧ Keeps W w')
    : Calls Try.prog 107 #[.pointer (some ⟨sb, 0, none⟩), .agg #[.int .u8 t, .int .u32 0], .int .i64 l] w fun e w' => e = .returned (.tuple #[.agg #[.int .u8 t, .int .u32 0], .agg #[.int .u8 t, .int .u32 0], .int .u8 0]) ∧ Keeps w w' := by
  have HV := Lib.hid hv
  clear hv
  have HL := Lib.hid hl
  clear hl
  go_enter Try.func107, Try.ntmps107
  go_wp2_with (first | (go_at_call 36; refine (HV.out _ (by (exact kp))).mono ?_; rintro e w' ⟨rfl, rfl⟩) | fail)
  (go_at_call 60; refine (HL.out _ (by (exact kp))).mono ?_; rintro e w1 ⟨rfl, hb⟩; have hsz := hb.size; simp only [World.size_alloc] at hsz; have hz0 : w.heap.size < w1.heap.size := (by omega); have hz1 : w.heap.size + 1 < w1.heap.size := (by omega); have hz2 : w.heap.size + 2 < w1.heap.size := (by omega); have y0 := hb.cell (a := ⟨w.heap.size, 0, none⟩) (v := .int .u8 t) (by simp [go_sem]); have y1 := hb.cell (a := ⟨w.heap.size, 1, none⟩) (v := .int .u32 0) (by simp [go_sem]); have x0 := hb.cell (a := ⟨w.heap.size + 1, 0, none⟩) (v := .int .u8 0) (by simp [go_sem]); have x1 := hb.cell (a := ⟨w.heap.size + 1, 1, none⟩) (v := .int .u32 0) (by simp [go_sem]); have z0 := hb.cell (a := ⟨w.heap.size + 2, 0, none⟩) (v := .int .u8 0) (by simp [go_sem]); have z1 := hb.cell (a := ⟨w.heap.size + 2, 1, none⟩) (v := .int .u32 0) (by simp [go_sem]); have xf := fun o : Nat => hb.frz (a := ⟨w.heap.size + 1, o, none⟩) (by simp [go_sem]) (by simp [go_sem]); have zf := fun o : Nat => hb.frz (a := ⟨w.heap.size + 2, o, none⟩) (by simp [go_sem]) (by simp [go_sem]); have hk : Keeps w w1 := (by (exact kp)))
  go_wp2_with fail
  go_region
  all_goals go_wp2
  all_goals refine bodyPost_ret (v := .tuple #[.agg #[.int .u8 t, .int .u32 0], .agg #[.int .u8 t, .int .u32 0], .int .u8 0]) (by simp [results, Try.results107, go_sem, hz1, hz2, x0, x1, z0, z1]) rfl ⟨rfl, by (exact kp)⟩

set_option maxRecDepth 100000 in
theorem tview_tag (sb : Nat) (l n : Int) (v : Edge) (w : World) (hn : n ≤ 16) (hsb : sb < w.heap.size)
    (hv : ∀ W, Keeps w W → Calls Try.prog 36 #[.pointer (some ⟨sb, 0, none⟩)] W fun e w' => e = .returned (.int .i64 n) ∧ W = w')
    (h0 : 0 ≤ l) (h1 : l < n)
    (hl : ∀ W, Keeps w W → Calls Try.prog 60 #[.pointer (some ⟨sb, 0, none⟩), .int .u8 5, .agg #[.int .u8 v.tag, .int .u32 v.to], .int .i64 l] W fun e w' => e = .returned (.bool true) ∧ Keeps W w')
    (ht1 : 0 ≤ v.tag) (ht2 : v.tag ≤ 255) (hc : ¬ v.to = 0) (ht : l < v.tag)
    : Calls Try.prog 107 #[.pointer (some ⟨sb, 0, none⟩), .agg #[.int .u8 v.tag, .int .u32 v.to], .int .i64 l] w fun e w' => e = .returned (.tuple #[.agg #[.int .u8 v.tag, .int .u32 v.to], .agg #[.int .u8 v.tag, .int .u32 v.to], .int .u8 0]) ∧ Keeps w w' := by
  have HV := Lib.hid hv
  clear hv
  have HL := Lib.hid hl
  clear hl
  go_enter Try.func107, Try.ntmps107
  go_wp2_with (first | (go_at_call 36; refine (HV.out _ (by (exact kp))).mono ?_; rintro e w' ⟨rfl, rfl⟩) | fail)
  (go_at_call 60; refine (HL.out _ (by (exact kp))).mono ?_; rintro e w1 ⟨rfl, hb⟩; have hsz := hb.size; simp only [World.size_alloc] at hsz; have hz0 : w.heap.size < w1.heap.size := (by omega); have hz1 : w.heap.size + 1 < w1.heap.size := (by omega); have hz2 : w.heap.size + 2 < w1.heap.size := (by omega); have y0 := hb.cell (a := ⟨w.heap.size, 0, none⟩) (v := .int .u8 v.tag) (by simp [go_sem]); have y1 := hb.cell (a := ⟨w.heap.size, 1, none⟩) (v := .int .u32 v.to) (by simp [go_sem]); have x0 := hb.cell (a := ⟨w.heap.size + 1, 0, none⟩) (v := .int .u8 0) (by simp [go_sem]); have x1 := hb.cell (a := ⟨w.heap.size + 1, 1, none⟩) (v := .int .u32 0) (by simp [go_sem]); have z0 := hb.cell (a := ⟨w.heap.size + 2, 0, none⟩) (v := .int .u8 0) (by simp [go_sem]); have z1 := hb.cell (a := ⟨w.heap.size + 2, 1, none⟩) (v := .int .u32 0) (by simp [go_sem]); have xf := fun o : Nat => hb.frz (a := ⟨w.heap.size + 1, o, none⟩) (by simp [go_sem]) (by simp [go_sem]); have zf := fun o : Nat => hb.frz (a := ⟨w.heap.size + 2, o, none⟩) (by simp [go_sem]) (by simp [go_sem]); have hk : Keeps w w1 := (by (exact kp)))
  go_wp2_with fail
  go_region
  all_goals go_wp2
  all_goals refine bodyPost_ret (v := .tuple #[.agg #[.int .u8 v.tag, .int .u32 v.to], .agg #[.int .u8 v.tag, .int .u32 v.to], .int .u8 0]) (by simp [results, Try.results107, go_sem, hz1, hz2, x0, x1, z0, z1]) rfl ⟨rfl, by (exact kp)⟩

set_option maxRecDepth 100000 in
theorem tview_none (sb : Nat) (l n : Int) (v : Edge) (x : Rec) (w : World) (hn : n ≤ 16) (hsb : sb < w.heap.size)
    (hv : ∀ W, Keeps w W → Calls Try.prog 36 #[.pointer (some ⟨sb, 0, none⟩)] W fun e w' => e = .returned (.int .i64 n) ∧ W = w')
    (h0 : 0 ≤ l) (h1 : l < n)
    (hl : ∀ W, Keeps w W → Calls Try.prog 60 #[.pointer (some ⟨sb, 0, none⟩), .int .u8 5, .agg #[.int .u8 v.tag, .int .u32 v.to], .int .i64 l] W fun e w' => e = .returned (.bool true) ∧ Keeps W w')
    (ht1 : 0 ≤ v.tag) (ht2 : v.tag ≤ 255) (hc : ¬ v.to = 0) (ht : v.tag ≤ l)
    (hg : ∀ W, Keeps w W → Calls Try.prog 28 #[.pointer (some ⟨sb, 0, none⟩), .int .u32 v.to] W fun e w' => e = .returned (.tuple #[.agg #[.int .u8 x.form, .int .u8 x.top, .int .u8 x.bot, .int .u8 x.lo.tag, .int .u32 x.lo.to, .int .u8 x.hi.tag, .int .u32 x.hi.to], .bool false]) ∧ Keeps W w')
    : Calls Try.prog 107 #[.pointer (some ⟨sb, 0, none⟩), .agg #[.int .u8 v.tag, .int .u32 v.to], .int .i64 l] w fun e w' => e = .returned (.tuple #[.agg #[.int .u8 (l + 1), .int .u32 v.to], .agg #[.int .u8 0, .int .u32 0], .int .u8 0]) ∧ Keeps w w' := by
  have HV := Lib.hid hv
  clear hv
  have HL := Lib.hid hl
  clear hl
  have HG := Lib.hid hg
  clear hg
  go_enter Try.func107, Try.ntmps107
  go_wp2_with (first | (go_at_call 36; refine (HV.out _ (by (exact kp))).mono ?_; rintro e w' ⟨rfl, rfl⟩) | fail)
  (go_at_call 60; refine (HL.out _ (by (exact kp))).mono ?_; rintro e w1 ⟨rfl, hb⟩; have hsz := hb.size; simp only [World.size_alloc] at hsz; have hz0 : w.heap.size < w1.heap.size := (by omega); have hz1 : w.heap.size + 1 < w1.heap.size := (by omega); have hz2 : w.heap.size + 2 < w1.heap.size := (by omega); have y0 := hb.cell (a := ⟨w.heap.size, 0, none⟩) (v := .int .u8 v.tag) (by simp [go_sem]); have y1 := hb.cell (a := ⟨w.heap.size, 1, none⟩) (v := .int .u32 v.to) (by simp [go_sem]); have x0 := hb.cell (a := ⟨w.heap.size + 1, 0, none⟩) (v := .int .u8 0) (by simp [go_sem]); have x1 := hb.cell (a := ⟨w.heap.size + 1, 1, none⟩) (v := .int .u32 0) (by simp [go_sem]); have z0 := hb.cell (a := ⟨w.heap.size + 2, 0, none⟩) (v := .int .u8 0) (by simp [go_sem]); have z1 := hb.cell (a := ⟨w.heap.size + 2, 1, none⟩) (v := .int .u32 0) (by simp [go_sem]); have xf := fun o : Nat => hb.frz (a := ⟨w.heap.size + 1, o, none⟩) (by simp [go_sem]) (by simp [go_sem]); have zf := fun o : Nat => hb.frz (a := ⟨w.heap.size + 2, o, none⟩) (by simp [go_sem]) (by simp [go_sem]); have hk : Keeps w w1 := (by (exact kp)))
  go_wp2_with fail
  · exfalso; simp_all; omega
  (go_at_call 28; refine (HG.out _ (by (exact kp))).mono ?_; rintro e w2 ⟨rfl, hb2⟩; have hs2 := hb2.size; have xf := fun o : Nat => hb2.frz (a := ⟨w.heap.size + 1, o, none⟩) (by dsimp only; omega) (xf o); have zf := fun o : Nat => hb2.frz (a := ⟨w.heap.size + 2, o, none⟩) (by dsimp only; omega) (zf o); have y0 := hb2.cell y0; have y1 := hb2.cell y1; have x0 := hb2.cell x0; have x1 := hb2.cell x1; have z0 := hb2.cell z0; have z1 := hb2.cell z1; have hz0 : w.heap.size < w2.heap.size := (by omega); have hz1 : w.heap.size + 1 < w2.heap.size := (by omega); have hz2 : w.heap.size + 2 < w2.heap.size := (by omega); have hk2 : Keeps w w2 := hk.trans hb2)
  go_wp2_with fail
  all_goals refine bodyPost_ret (v := .tuple #[.agg #[.int .u8 (l + 1), .int .u32 v.to], .agg #[.int .u8 0, .int .u32 0], .int .u8 0]) (by simp [results, Try.results107, go_sem, hz1, hz2, x0, x1, z0, z1]) rfl ⟨rfl, by (exact kp)⟩

set_option maxRecDepth 100000 in
theorem tview_up (sb : Nat) (l n : Int) (v : Edge) (x : Rec) (w : World) (hn : n ≤ 16) (hsb : sb < w.heap.size)
    (hv : ∀ W, Keeps w W → Calls Try.prog 36 #[.pointer (some ⟨sb, 0, none⟩)] W fun e w' => e = .returned (.int .i64 n) ∧ W = w')
    (h0 : 0 ≤ l) (h1 : l < n)
    (hl : ∀ W, Keeps w W → Calls Try.prog 60 #[.pointer (some ⟨sb, 0, none⟩), .int .u8 5, .agg #[.int .u8 v.tag, .int .u32 v.to], .int .i64 l] W fun e w' => e = .returned (.bool true) ∧ Keeps W w')
    (ht1 : 0 ≤ v.tag) (ht2 : v.tag ≤ 255) (hc : ¬ v.to = 0) (ht : v.tag ≤ l)
    (hx : l < x.top) (hx1 : 0 ≤ x.top) (hx2 : x.top ≤ 255) (hx3 : 0 ≤ x.bot) (hx4 : x.bot ≤ 255)
    (hg : ∀ W, Keeps w W → Calls Try.prog 28 #[.pointer (some ⟨sb, 0, none⟩), .int .u32 v.to] W fun e w' => e = .returned (.tuple #[.agg #[.int .u8 x.form, .int .u8 x.top, .int .u8 x.bot, .int .u8 x.lo.tag, .int .u32 x.lo.to, .int .u8 x.hi.tag, .int .u32 x.hi.to], .bool true]) ∧ Keeps W w')
    : Calls Try.prog 107 #[.pointer (some ⟨sb, 0, none⟩), .agg #[.int .u8 v.tag, .int .u32 v.to], .int .i64 l] w fun e w' => e = .returned (.tuple #[.agg #[.int .u8 (l + 1), .int .u32 v.to], .agg #[.int .u8 0, .int .u32 0], .int .u8 0]) ∧ Keeps w w' := by
  have HV := Lib.hid hv
  clear hv
  have HL := Lib.hid hl
  clear hl
  have HG := Lib.hid hg
  clear hg
  go_enter Try.func107, Try.ntmps107
  go_wp2_with (first | (go_at_call 36; refine (HV.out _ (by (exact kp))).mono ?_; rintro e w' ⟨rfl, rfl⟩) | fail)
  (go_at_call 60; refine (HL.out _ (by (exact kp))).mono ?_; rintro e w1 ⟨rfl, hb⟩; have hsz := hb.size; simp only [World.size_alloc] at hsz; have hz0 : w.heap.size < w1.heap.size := (by omega); have hz1 : w.heap.size + 1 < w1.heap.size := (by omega); have hz2 : w.heap.size + 2 < w1.heap.size := (by omega); have y0 := hb.cell (a := ⟨w.heap.size, 0, none⟩) (v := .int .u8 v.tag) (by simp [go_sem]); have y1 := hb.cell (a := ⟨w.heap.size, 1, none⟩) (v := .int .u32 v.to) (by simp [go_sem]); have x0 := hb.cell (a := ⟨w.heap.size + 1, 0, none⟩) (v := .int .u8 0) (by simp [go_sem]); have x1 := hb.cell (a := ⟨w.heap.size + 1, 1, none⟩) (v := .int .u32 0) (by simp [go_sem]); have z0 := hb.cell (a := ⟨w.heap.size + 2, 0, none⟩) (v := .int .u8 0) (by simp [go_sem]); have z1 := hb.cell (a := ⟨w.heap.size + 2, 1, none⟩) (v := .int .u32 0) (by simp [go_sem]); have xf := fun o : Nat => hb.frz (a := ⟨w.heap.size + 1, o, none⟩) (by simp [go_sem]) (by simp [go_sem]); have zf := fun o : Nat => hb.frz (a := ⟨w.heap.size + 2, o, none⟩) (by simp [go_sem]) (by simp [go_sem]); have hk : Keeps w w1 := (by (exact kp)))
  go_wp2_with fail
  · exfalso; simp_all; omega
  (go_at_call 28; refine (HG.out _ (by (exact kp))).mono ?_; rintro e w2 ⟨rfl, hb2⟩; have hs2 := hb2.size; have xf := fun o : Nat => hb2.frz (a := ⟨w.heap.size + 1, o, none⟩) (by dsimp only; omega) (xf o); have zf := fun o : Nat => hb2.frz (a := ⟨w.heap.size + 2, o, none⟩) (by dsimp only; omega) (zf o); have y0 := hb2.cell y0; have y1 := hb2.cell y1; have x0 := hb2.cell x0; have x1 := hb2.cell x1; have z0 := hb2.cell z0; have z1 := hb2.cell z1; have hz0 : w.heap.size < w2.heap.size := (by omega); have hz1 : w.heap.size + 1 < w2.heap.size := (by omega); have hz2 : w.heap.size + 2 < w2.heap.size := (by omega); have hk2 : Keeps w w2 := hk.trans hb2)
  go_wp2_with fail
  all_goals refine bodyPost_ret (v := .tuple #[.agg #[.int .u8 (l + 1), .int .u32 v.to], .agg #[.int .u8 0, .int .u32 0], .int .u8 0]) (by simp [results, Try.results107, go_sem, hz1, hz2, x0, x1, z0, z1]) rfl ⟨rfl, by (exact kp)⟩

set_option maxRecDepth 100000 in
theorem tview_at (sb : Nat) (l n : Int) (v : Edge) (x : Rec) (w : World) (hn : n ≤ 16) (hsb : sb < w.heap.size)
    (hv : ∀ W, Keeps w W → Calls Try.prog 36 #[.pointer (some ⟨sb, 0, none⟩)] W fun e w' => e = .returned (.int .i64 n) ∧ W = w')
    (h0 : 0 ≤ l) (h1 : l < n)
    (hl : ∀ W, Keeps w W → Calls Try.prog 60 #[.pointer (some ⟨sb, 0, none⟩), .int .u8 5, .agg #[.int .u8 v.tag, .int .u32 v.to], .int .i64 l] W fun e w' => e = .returned (.bool true) ∧ Keeps W w')
    (ht1 : 0 ≤ v.tag) (ht2 : v.tag ≤ 255) (hc : ¬ v.to = 0) (ht : v.tag ≤ l)
     (hx1 : 0 ≤ x.top) (hx2 : x.top ≤ 255) (hx3 : 0 ≤ x.bot) (hx4 : x.bot ≤ 255)
    (hg : ∀ W, Keeps w W → Calls Try.prog 28 #[.pointer (some ⟨sb, 0, none⟩), .int .u32 v.to] W fun e w' => e = .returned (.tuple #[.agg #[.int .u8 x.form, .int .u8 l, .int .u8 x.bot, .int .u8 x.lo.tag, .int .u32 x.lo.to, .int .u8 x.hi.tag, .int .u32 x.hi.to], .bool true]) ∧ Keeps W w')
    : Calls Try.prog 107 #[.pointer (some ⟨sb, 0, none⟩), .agg #[.int .u8 v.tag, .int .u32 v.to], .int .i64 l] w fun e w' => e = .returned (.tuple #[.agg #[.int .u8 x.lo.tag, .int .u32 x.lo.to], .agg #[.int .u8 x.hi.tag, .int .u32 x.hi.to], .int .u8 0]) ∧ Keeps w w' := by
  have HV := Lib.hid hv
  clear hv
  have HL := Lib.hid hl
  clear hl
  have HG := Lib.hid hg
  clear hg
  go_enter Try.func107, Try.ntmps107
  go_wp2_with (first | (go_at_call 36; refine (HV.out _ (by (exact kp))).mono ?_; rintro e w' ⟨rfl, rfl⟩) | fail)
  (go_at_call 60; refine (HL.out _ (by (exact kp))).mono ?_; rintro e w1 ⟨rfl, hb⟩; have hsz := hb.size; simp only [World.size_alloc] at hsz; have hz0 : w.heap.size < w1.heap.size := (by omega); have hz1 : w.heap.size + 1 < w1.heap.size := (by omega); have hz2 : w.heap.size + 2 < w1.heap.size := (by omega); have y0 := hb.cell (a := ⟨w.heap.size, 0, none⟩) (v := .int .u8 v.tag) (by simp [go_sem]); have y1 := hb.cell (a := ⟨w.heap.size, 1, none⟩) (v := .int .u32 v.to) (by simp [go_sem]); have x0 := hb.cell (a := ⟨w.heap.size + 1, 0, none⟩) (v := .int .u8 0) (by simp [go_sem]); have x1 := hb.cell (a := ⟨w.heap.size + 1, 1, none⟩) (v := .int .u32 0) (by simp [go_sem]); have z0 := hb.cell (a := ⟨w.heap.size + 2, 0, none⟩) (v := .int .u8 0) (by simp [go_sem]); have z1 := hb.cell (a := ⟨w.heap.size + 2, 1, none⟩) (v := .int .u32 0) (by simp [go_sem]); have xf := fun o : Nat => hb.frz (a := ⟨w.heap.size + 1, o, none⟩) (by simp [go_sem]) (by simp [go_sem]); have zf := fun o : Nat => hb.frz (a := ⟨w.heap.size + 2, o, none⟩) (by simp [go_sem]) (by simp [go_sem]); have hk : Keeps w w1 := (by (exact kp)))
  go_wp2_with fail
  · exfalso; simp_all; omega
  (go_at_call 28; refine (HG.out _ (by (exact kp))).mono ?_; rintro e w2 ⟨rfl, hb2⟩; have hs2 := hb2.size; have xf := fun o : Nat => hb2.frz (a := ⟨w.heap.size + 1, o, none⟩) (by dsimp only; omega) (xf o); have zf := fun o : Nat => hb2.frz (a := ⟨w.heap.size + 2, o, none⟩) (by dsimp only; omega) (zf o); have y0 := hb2.cell y0; have y1 := hb2.cell y1; have x0 := hb2.cell x0; have x1 := hb2.cell x1; have z0 := hb2.cell z0; have z1 := hb2.cell z1; have hz0 : w.heap.size < w2.heap.size := (by omega); have hz1 : w.heap.size + 1 < w2.heap.size := (by omega); have hz2 : w.heap.size + 2 < w2.heap.size := (by omega); have hk2 : Keeps w w2 := hk.trans hb2)
  go_wp2_with fail
  go_region
  all_goals go_wp2
  all_goals refine bodyPost_ret (v := .tuple #[.agg #[.int .u8 x.lo.tag, .int .u32 x.lo.to], .agg #[.int .u8 x.hi.tag, .int .u32 x.hi.to], .int .u8 0]) (by simp [results, Try.results107, go_sem, hz1, hz2, x0, x1, z0, z1]) rfl ⟨rfl, by (exact kp)⟩

end Go.Proofs.Ytoeoehbpahodnaa

namespace Go.Proofs.Ytoeoehbpahodnaa
set_option linter.unusedSimpArgs false
set_option linter.unusedVariables false
set_option maxHeartbeats 600000
open Go.RowKit

theorem perm_of_sub : ∀ (R ps : List Int), R.Nodup → (∀ x ∈ R, x ∈ ps) → ps.length ≤ R.length → ps.Perm R := by
  intro R
  induction R with
  | nil =>
    intro ps _ _ hl
    rw [List.length_nil, Nat.le_zero, List.length_eq_zero_iff] at hl
    rw [hl]
  | cons x R ih =>
    intro ps hn hs hl
    rw [List.nodup_cons] at hn
    have hx := hs x (by simp)
    have hp := List.perm_cons_erase hx
    refine hp.trans (List.Perm.cons x (ih _ hn.2 (fun y hy => ?_) ?_))
    · have hyx : y ≠ x := fun e => hn.1 (e ▸ hy)
      exact (List.mem_erase_of_ne hyx).2 (hs y (by simp [hy]))
    · have := hp.length_eq
      simp at this hl
      omega

def numsI (n : Nat) : List Int := (List.range n).map (fun i : Nat => (i : Int))

theorem numsI_len (n : Nat) : (numsI n).length = n := by unfold numsI; simp

theorem mem_numsI {n : Nat} {x : Int} : x ∈ numsI n ↔ 0 ≤ x ∧ x < (n : Int) := by
  unfold numsI
  rw [List.mem_map]
  constructor
  · rintro ⟨a, ha, rfl⟩
    rw [List.mem_range] at ha
    omega
  · intro h
    exact ⟨x.toNat, by rw [List.mem_range]; omega, by omega⟩

theorem nodup_numsI (n : Nat) : (numsI n).Nodup := by
  unfold numsI
  exact List.Pairwise.map _ (fun a b (h : a ≠ b) e => h (by omega)) List.nodup_range

theorem permB_perm {ps : List Int} : permB ps = true ↔ (ps.length ≤ 16 ∧ ps.Perm (numsI ps.length)) := by
  rw [permB_iff]
  constructor
  · rintro ⟨h1, h2, h3⟩
    exact ⟨h1, (perm_of_sub ps (numsI ps.length) h3 (fun x hx => mem_numsI.2 (h2 x hx)) (by rw [numsI_len]; omega)).symm⟩
  · rintro ⟨h1, h2⟩
    exact ⟨h1, fun x hx => mem_numsI.1 (h2.mem_iff.1 hx), h2.nodup_iff.2 (nodup_numsI _)⟩

theorem permB_count {ps : List Int} (h16 : ps.length ≤ 16) : permB ps = true ↔ ∀ i : Nat, i < ps.length → ps.count (i : Int) = 1 := by
  rw [permB_perm]
  constructor
  · rintro ⟨_, h⟩ i hi
    rw [h.count_eq, (nodup_numsI _).count, if_pos (mem_numsI.2 (by omega))]
  · intro h
    refine ⟨h16, perm_of_sub _ _ (nodup_numsI _) (fun x hx => ?_) (by rw [numsI_len]; omega)⟩
    obtain ⟨h0, h1⟩ := mem_numsI.1 hx
    have := h x.toNat (by omega)
    rw [show ((x.toNat : Nat) : Int) = x by omega] at this
    exact List.count_pos_iff.1 (by omega)

set_option maxRecDepth 100000 in
theorem refRight_calls (a : Option Addr) (cap : Nat) (ps : List Int) (w : World) (h : IntsAt w a ps) (hl : ps.length ≤ 16) :
    Calls Try.prog 14 #[.slice a ps.length cap] w fun e w' => e = .returned (.bool (permB ps)) ∧ w = w' := by
  have hcnt := permB_count hl
  obtain ⟨N, hN⟩ : ∃ N, N = ps.length := ⟨_, rfl⟩
  rw [← hN] at hl hcnt ⊢
  have H := Lib.hid h
  have HN := Lib.hid hN
  have HC := Lib.hid hcnt
  clear h hN hcnt
  go_enter Try.func14, Try.ntmps14
  go_wp2
  go_loopg [3, 4, 5] N (fun gk s3 s4 s5 wr => ∃ (d : Nat), s3 = .int .i64 (d : Int) ∧ d + gk = N ∧ (∀ i : Nat, i < d → ps.count (i : Int) = 1) ∧ w = wr)
  case atStart => exact ⟨0, rfl, by omega, fun i hi => by omega, rfl⟩
  case round =>
    obtain ⟨d, rfl, hd, hall, rfl⟩ := hrel
    have HALL := Lib.hid hall
    obtain ⟨g0, hg0⟩ : ∃ g, g = gk := ⟨_, rfl⟩
    have HG0 := Lib.hid hg0
    clear hall hg0
    by_cases hlt : d < N
    · go_wp2_with fail
      go_loopg [4, 5] N (fun gk s4 s5 wi => ∃ (j c : Nat), s5 = .int .i64 (j : Int) ∧ s4 = .int .i64 (c : Int) ∧ j + gk = N ∧ c = (ps.take j).count (d : Int) ∧ c ≤ j ∧ w = wi)
      case atStart => exact ⟨0, 0, rfl, rfl, by omega, by simp, by omega, rfl⟩
      case round =>
        obtain ⟨j, c, rfl, rfl, hj, hcc, hcj, rfl⟩ := hrel
        have HCC := Lib.hid hcc
        clear hcc
        by_cases hjl : j < N
        · obtain ⟨x, hx⟩ : ∃ b, ps[j]? = some b := ⟨_, List.getElem?_eq_getElem (by rw [← HN.out]; exact hjl)⟩
          obtain ⟨b, off, rfl, hc⟩ := H.out j x hx
          have ht := take_snoc hx
          have HT := Lib.hid ht
          clear hx ht
          by_cases hxd : x = (d : Int)
          · subst hxd
            go_wp2_with fail
            go_roundg (gk - 1)
            case rel => exact ⟨j + 1, c + 1, by simp, by simp, by omega, by rw [HT.out, List.count_append, HCC.out]; simp, by omega, rfl⟩
            case measure => omega
          · go_wp2_with fail
            go_roundg (gk - 1)
            case rel => exact ⟨j + 1, c, by simp, rfl, by omega, by rw [HT.out, List.count_append, HCC.out]; simp [hxd], by omega, rfl⟩
            case measure => omega
        · have hcp : c = ps.count (d : Int) := by
            rw [HCC.out, List.take_of_length_le (by rw [← HN.out]; omega)]
          have HCP := Lib.hid hcp
          clear hcp
          by_cases h1 : c = 1
          · subst h1
            have hall : ∀ i : Nat, i < d + 1 → ps.count (i : Int) = 1 := fun i hi => by
              by_cases e : i = d
              · subst e; exact HCP.out.symm
              · exact HALL.out i (by omega)
            have HALL2 := Lib.hid hall
            clear hall
            go_wp2_with fail
            go_roundg (g0 - 1)
            case rel => exact ⟨d + 1, by simp, by have := HG0.out; omega, HALL2.out, rfl⟩
            case measure => have := HG0.out; omega
          · have hf : permB ps = false := by
              cases hb : permB ps with
              | false => rfl
              | true => have := HC.out.1 hb d hlt; have := HCP.out; omega
            have HF := Lib.hid hf
            have g1 : ((c : Int) != 1) = true := by simp; omega
            clear hf
            go_wp2_with fail
            go_ret
            exact ⟨by rw [HF.out]; rfl, rfl⟩
    · have ht : permB ps = true := HC.out.2 (fun i hi => HALL.out i (by omega))
      have HT := Lib.hid ht
      clear ht
      go_wp2_with fail
      go_ret
      exact ⟨by rw [HT.out]; simp; omega, rfl⟩

set_option maxRecDepth 100000 in
theorem refSame_calls (a b : Option Addr) (cap cap2 : Nat) (ps qs : List Int) (w : World) (h1 : IntsAt w a ps) (h2 : IntsAt w b qs) (hl1 : ps.length ≤ 1048576) (hl2 : qs.length ≤ 1048576) :
    Calls Try.prog 16 #[.slice a ps.length cap, .slice b qs.length cap2] w fun e w' => e = .returned (.bool (decide (ps = qs))) ∧ Keeps w w' := by
  by_cases hne : ps.length = qs.length
  · obtain ⟨N, hN⟩ : ∃ N, N = ps.length := ⟨_, rfl⟩
    have hM : N = qs.length := hN.trans hne
    rw [← hM, ← hN]
    rw [← hN] at hl1
    have H1 := Lib.hid h1
    have H2 := Lib.hid h2
    have HN := Lib.hid hN
    have HM := Lib.hid hM
    clear h1 h2 hN hM hne hl2
    go_enter Try.func16, Try.ntmps16
    go_wp2
    go_loopg [5] N (fun gk s5 wr => ∃ d : Nat, s5 = .int .i64 (d : Int) ∧ d + gk = N ∧ (∀ i, i < d → ps[i]? = qs[i]?) ∧ Keeps w wr)
    case atStart => exact ⟨0, rfl, by omega, fun i hi => by omega, by (exact kp)⟩
    case round =>
      obtain ⟨d, rfl, hd, hn, hk⟩ := hrel
      have HNN := Lib.hid hn
      clear hn
      by_cases hlt : d < N
      · obtain ⟨x, hx⟩ : ∃ b, ps[d]? = some b := ⟨_, List.getElem?_eq_getElem (by rw [← HN.out]; exact hlt)⟩
        obtain ⟨y, hy⟩ : ∃ b, qs[d]? = some b := ⟨_, List.getElem?_eq_getElem (by rw [← HM.out]; exact hlt)⟩
        obtain ⟨b1, o1, rfl, c0⟩ := H1.out d x hx
        obtain ⟨b2, o2, rfl, c1⟩ := H2.out d y hy
        replace c0 := hk.cell c0
        replace c1 := hk.cell c1
        have HX := Lib.hid hx
        have HY := Lib.hid hy
        have i0 : (0 : Int) ≤ (d : Int) := by omega
        have i1 : (d : Int) < (N : Int) := by omega
        clear hx hy
        by_cases hab : x = y
        · subst hab
          go_wp2_with fail
          go_quiet (fail)
          go_wp2
          go_roundg (gk - 1)
          case rel =>
            refine ⟨d + 1, by simp, by omega, fun i hi => ?_, by (exact kp)⟩
            by_cases e : i = d
            · subst e; rw [HX.out, HY.out]
            · exact HNN.out i (by omega)
          case measure => omega
        · have gab : (x != y) = true := by simp [hab]
          have hf : Hid (¬ ps = qs) := Lib.hid (fun e => by have := HX.out; rw [e, HY.out] at this; exact hab (Option.some.inj this).symm)
          go_wp2_with fail
          go_quiet (fail)
          go_wp2
          go_ret
          exact ⟨by rw [decide_eq_false hf.out]; rfl, by (exact kp)⟩
      · have hg0 : d = N := by omega
        have hh : ps = qs := by
          apply List.ext_getElem?
          intro i
          by_cases hi : i < d
          · exact HNN.out i hi
          · rw [List.getElem?_eq_none (by rw [← HN.out]; omega), List.getElem?_eq_none (by rw [← HM.out]; omega)]
        have HH := Lib.hid hh
        clear hg0 hh
        go_wp2_with fail
        go_ret
        exact ⟨by rw [decide_eq_true HH.out]; rfl, hk⟩
  · have hf : decide (ps = qs) = false := decide_eq_false (fun e => hne (by rw [e]))
    obtain ⟨N, hN⟩ : ∃ N, N = ps.length := ⟨_, rfl⟩
    obtain ⟨K, hK⟩ : ∃ K, K = qs.length := ⟨_, rfl⟩
    rw [hf]
    rw [← hN, ← hK] at hne ⊢
    have gne : ((N : Int) != (K : Int)) = true := by simp; omega
    clear h1 h2 hl1 hl2 hN hK hf hne
    go_enter Try.func16, Try.ntmps16
    go_wp2
    go_ret
    exact ⟨rfl, by (exact kp)⟩

end Go.Proofs.Ytoeoehbpahodnaa
