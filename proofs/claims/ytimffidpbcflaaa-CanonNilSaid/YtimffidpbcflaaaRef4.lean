/-
  The walk of the document's Find (ramageref11).
-/
import Derived.Test.YtimffidpbcflaaaRef3
namespace Go.Proofs.Ytimffidpbcflaaa
set_option linter.unusedSimpArgs false
set_option linter.unusedVariables false
set_option maxHeartbeats 600000
open Go.RowKit


theorem info_node : (Try.prog.info? 87).map (fun i => (i.zero, i.size, i.bytes)) = some (some (.agg #[.int .u32 0, .int .u8 0, .int .u8 0, .int .u8 0, .int .u8 0, .int .u32 0, .int .u8 0, .int .u32 0]), 8, 24) := by kernel_rfl

set_option maxRecDepth 100000 in
theorem rfind_old (mb : Nat) (r : Rec) (id n : Int) (w : World) (hid : 0 < id)
    (c3 : w.cell? ⟨mb, 3, none⟩ = some (.int .i64 n))
    (hg : ∀ W, Keeps w W → Calls Try.prog 98 #[.pointer (some ⟨mb, 0, none⟩), .agg #[.int .u8 r.form, .int .u8 r.top, .int .u8 r.bot, .int .u8 r.lo.tag, .int .u32 r.lo.to, .int .u8 r.hi.tag, .int .u32 r.hi.to]] W fun e w' => e = .returned (.int .u32 id) ∧ Keeps W w') :
    Calls Try.prog 59 #[.pointer (some ⟨mb, 0, none⟩), .agg #[.int .u8 r.form, .int .u8 r.top, .int .u8 r.bot, .int .u8 r.lo.tag, .int .u32 r.lo.to, .int .u8 r.hi.tag, .int .u32 r.hi.to]] w fun e w' => e = .returned (.tuple #[.int .u32 id, .int .i64 0]) ∧ Keeps w w' := by
  have hmb : mb < w.heap.size := lt_of_cell c3
  have Hg := Lib.hid hg
  clear hg
  go_enter Try.func59, Try.ntmps59
  go_wp2_with (first | (go_at_call 98; refine (Hg.out _ (by (repeat (first | with_reducible exact Keeps.refl _ | with_reducible assumption | with_reducible refine Keeps.alloc ?_ _ | with_reducible refine Keeps.drewN ?_ _ | with_reducible refine Keeps.drew ?_ | refine Keeps.setCell ?_ (by dsimp only; omega) _ | with_reducible refine Keeps.trans ?_ (by assumption))))).mono ?_; rintro e w1 ⟨rfl, hb⟩; have hwb : Keeps (w.alloc (.cells #[.int .u8 r.form, .int .u8 r.top, .int .u8 r.bot, .int .u8 r.lo.tag, .int .u32 r.lo.to, .int .u8 r.hi.tag, .int .u32 r.hi.to] 58)) w1 := (by (repeat (first | with_reducible exact Keeps.refl _ | with_reducible assumption | with_reducible refine Keeps.alloc ?_ _ | with_reducible refine Keeps.drewN ?_ _ | with_reducible refine Keeps.drew ?_ | refine Keeps.setCell ?_ (by dsimp only; omega) _ | with_reducible refine Keeps.trans ?_ (by assumption)))); obtain ⟨y0, y1, y2, y3, y4, y5, y6⟩ := box7 hwb; have hk : Keeps w w1 := (((Keeps.refl _).alloc _).trans hwb); have hsz := hwb.size; simp only [World.size_alloc] at hsz; have d3 := hk.cell c3) | fail)
  go_ret2
  exact ⟨rfl, by (repeat (first | with_reducible exact Keeps.refl _ | with_reducible assumption | with_reducible refine Keeps.alloc ?_ _ | with_reducible refine Keeps.drewN ?_ _ | with_reducible refine Keeps.drew ?_ | refine Keeps.setCell ?_ (by dsimp only; omega) _ | with_reducible refine Keeps.trans ?_ (by assumption)))⟩

set_option maxRecDepth 100000 in
theorem rfind_bad1 (mb : Nat) (r : Rec) (hb1 : 0 ≤ r.bot) (hb2 : r.bot ≤ 255) (n : Int) (w : World)
    (c3 : w.cell? ⟨mb, 3, none⟩ = some (.int .i64 n))
    (hg : ∀ W, Keeps w W → Calls Try.prog 98 #[.pointer (some ⟨mb, 0, none⟩), .agg #[.int .u8 r.form, .int .u8 r.top, .int .u8 r.bot, .int .u8 r.lo.tag, .int .u32 r.lo.to, .int .u8 r.hi.tag, .int .u32 r.hi.to]] W fun e w' => e = .returned (.int .u32 0) ∧ Keeps W w')
    (hr : ∀ W, Calls Try.prog 99 #[.agg #[.int .u8 r.form, .int .u8 r.top, .int .u8 r.bot, .int .u8 r.lo.tag, .int .u32 r.lo.to, .int .u8 r.hi.tag, .int .u32 r.hi.to], .int .i64 n] W fun e w' => e = .returned (.bool false) ∧ Keeps W w')
    : Calls Try.prog 59 #[.pointer (some ⟨mb, 0, none⟩), .agg #[.int .u8 r.form, .int .u8 r.top, .int .u8 r.bot, .int .u8 r.lo.tag, .int .u32 r.lo.to, .int .u8 r.hi.tag, .int .u32 r.hi.to]] w fun e w' => e = .returned (.tuple #[.int .u32 0, .int .i64 1]) ∧ Keeps w w' := by
  have hmb : mb < w.heap.size := lt_of_cell c3
  have Hg := Lib.hid hg
  have Hr := Lib.hid hr
  clear hg hr
  go_enter Try.func59, Try.ntmps59
  go_wp2_with (first | (go_at_call 98; refine (Hg.out _ (by (repeat (first | with_reducible exact Keeps.refl _ | with_reducible assumption | with_reducible refine Keeps.alloc ?_ _ | with_reducible refine Keeps.drewN ?_ _ | with_reducible refine Keeps.drew ?_ | refine Keeps.setCell ?_ (by dsimp only; omega) _ | with_reducible refine Keeps.trans ?_ (by assumption))))).mono ?_; rintro e w1 ⟨rfl, hb⟩; have hwb : Keeps (w.alloc (.cells #[.int .u8 r.form, .int .u8 r.top, .int .u8 r.bot, .int .u8 r.lo.tag, .int .u32 r.lo.to, .int .u8 r.hi.tag, .int .u32 r.hi.to] 58)) w1 := (by (repeat (first | with_reducible exact Keeps.refl _ | with_reducible assumption | with_reducible refine Keeps.alloc ?_ _ | with_reducible refine Keeps.drewN ?_ _ | with_reducible refine Keeps.drew ?_ | refine Keeps.setCell ?_ (by dsimp only; omega) _ | with_reducible refine Keeps.trans ?_ (by assumption)))); obtain ⟨y0, y1, y2, y3, y4, y5, y6⟩ := box7 hwb; have hk : Keeps w w1 := (((Keeps.refl _).alloc _).trans hwb); have hsz := hwb.size; simp only [World.size_alloc] at hsz; have d3 := hk.cell c3) | fail)
  have d3k := KWorld.cell d3
  have y0k := KWorld.cell y0
  have y1k := KWorld.cell y1
  have y2k := KWorld.cell y2
  have y3k := KWorld.cell y3
  have y4k := KWorld.cell y4
  have y5k := KWorld.cell y5
  have y6k := KWorld.cell y6
  refine wp_region_keeps (w1) (by kernel_rfl) (by kernel_rfl) (by (repeat (first | with_reducible exact Keeps.refl _ | with_reducible assumption | with_reducible refine Keeps.alloc ?_ _ | with_reducible refine Keeps.drewN ?_ _ | with_reducible refine Keeps.drew ?_ | refine Keeps.setCell ?_ (by dsimp only; omega) _ | with_reducible refine Keeps.trans ?_ (by assumption)))) ?_; (repeat (go_big_quiet_step ((first | (go_at_call 99; refine Calls.keepsK (Hr.out _)))))); refine wpQuiet_nil ?_; rintro wq ⟨⟨_, hkq⟩, rfl⟩; try dsimp only
  go_wp2
  go_ret2
  exact ⟨rfl, by (repeat (first | with_reducible exact Keeps.refl _ | with_reducible assumption | with_reducible refine Keeps.alloc ?_ _ | with_reducible refine Keeps.drewN ?_ _ | with_reducible refine Keeps.drew ?_ | refine Keeps.setCell ?_ (by dsimp only; omega) _ | with_reducible refine Keeps.trans ?_ (by assumption)))⟩

set_option maxRecDepth 100000 in
theorem rfind_bad2 (mb : Nat) (r : Rec) (hb1 : 0 ≤ r.bot) (hb2 : r.bot ≤ 255) (n : Int) (w : World)
    (c3 : w.cell? ⟨mb, 3, none⟩ = some (.int .i64 n))
    (hg : ∀ W, Keeps w W → Calls Try.prog 98 #[.pointer (some ⟨mb, 0, none⟩), .agg #[.int .u8 r.form, .int .u8 r.top, .int .u8 r.bot, .int .u8 r.lo.tag, .int .u32 r.lo.to, .int .u8 r.hi.tag, .int .u32 r.hi.to]] W fun e w' => e = .returned (.int .u32 0) ∧ Keeps W w')
    (hr : ∀ W, Calls Try.prog 99 #[.agg #[.int .u8 r.form, .int .u8 r.top, .int .u8 r.bot, .int .u8 r.lo.tag, .int .u32 r.lo.to, .int .u8 r.hi.tag, .int .u32 r.hi.to], .int .i64 n] W fun e w' => e = .returned (.bool true) ∧ Keeps W w')
    (hlo : ∀ W, Keeps w W → Calls Try.prog 22 #[.pointer (some ⟨mb, 0, none⟩), .int .u8 r.form, .agg #[.int .u8 r.lo.tag, .int .u32 r.lo.to], .int .i64 (r.bot + 1)] W fun e w' => e = .returned (.bool false) ∧ Keeps W w')
    : Calls Try.prog 59 #[.pointer (some ⟨mb, 0, none⟩), .agg #[.int .u8 r.form, .int .u8 r.top, .int .u8 r.bot, .int .u8 r.lo.tag, .int .u32 r.lo.to, .int .u8 r.hi.tag, .int .u32 r.hi.to]] w fun e w' => e = .returned (.tuple #[.int .u32 0, .int .i64 1]) ∧ Keeps w w' := by
  have hmb : mb < w.heap.size := lt_of_cell c3
  have Hg := Lib.hid hg
  have Hr := Lib.hid hr
  have Hlo := Lib.hid hlo
  clear hg hr hlo
  go_enter Try.func59, Try.ntmps59
  go_wp2_with (first | (go_at_call 98; refine (Hg.out _ (by (repeat (first | with_reducible exact Keeps.refl _ | with_reducible assumption | with_reducible refine Keeps.alloc ?_ _ | with_reducible refine Keeps.drewN ?_ _ | with_reducible refine Keeps.drew ?_ | refine Keeps.setCell ?_ (by dsimp only; omega) _ | with_reducible refine Keeps.trans ?_ (by assumption))))).mono ?_; rintro e w1 ⟨rfl, hb⟩; have hwb : Keeps (w.alloc (.cells #[.int .u8 r.form, .int .u8 r.top, .int .u8 r.bot, .int .u8 r.lo.tag, .int .u32 r.lo.to, .int .u8 r.hi.tag, .int .u32 r.hi.to] 58)) w1 := (by (repeat (first | with_reducible exact Keeps.refl _ | with_reducible assumption | with_reducible refine Keeps.alloc ?_ _ | with_reducible refine Keeps.drewN ?_ _ | with_reducible refine Keeps.drew ?_ | refine Keeps.setCell ?_ (by dsimp only; omega) _ | with_reducible refine Keeps.trans ?_ (by assumption)))); obtain ⟨y0, y1, y2, y3, y4, y5, y6⟩ := box7 hwb; have hk : Keeps w w1 := (((Keeps.refl _).alloc _).trans hwb); have hsz := hwb.size; simp only [World.size_alloc] at hsz; have d3 := hk.cell c3) | fail)
  have d3k := KWorld.cell d3
  have y0k := KWorld.cell y0
  have y1k := KWorld.cell y1
  have y2k := KWorld.cell y2
  have y3k := KWorld.cell y3
  have y4k := KWorld.cell y4
  have y5k := KWorld.cell y5
  have y6k := KWorld.cell y6
  refine wp_region_keeps (w1) (by kernel_rfl) (by kernel_rfl) (by (repeat (first | with_reducible exact Keeps.refl _ | with_reducible assumption | with_reducible refine Keeps.alloc ?_ _ | with_reducible refine Keeps.drewN ?_ _ | with_reducible refine Keeps.drew ?_ | refine Keeps.setCell ?_ (by dsimp only; omega) _ | with_reducible refine Keeps.trans ?_ (by assumption)))) ?_; (repeat (go_big_quiet_step ((first | (go_at_call 99; refine Calls.keepsK (Hr.out _)) | (go_at_call 22; with_reducible refine Calls.keepsK (Hlo.out _ (hk.trans (KWorld.keep _)))))))); refine wpQuiet_nil ?_; rintro wq ⟨⟨_, hkq⟩, rfl⟩; try dsimp only
  go_wp2
  go_ret2
  exact ⟨rfl, by (repeat (first | with_reducible exact Keeps.refl _ | with_reducible assumption | with_reducible refine Keeps.alloc ?_ _ | with_reducible refine Keeps.drewN ?_ _ | with_reducible refine Keeps.drew ?_ | refine Keeps.setCell ?_ (by dsimp only; omega) _ | with_reducible refine Keeps.trans ?_ (by assumption)))⟩

set_option maxRecDepth 100000 in
theorem rfind_bad3 (mb : Nat) (r : Rec) (hb1 : 0 ≤ r.bot) (hb2 : r.bot ≤ 255) (n : Int) (w : World)
    (c3 : w.cell? ⟨mb, 3, none⟩ = some (.int .i64 n))
    (hg : ∀ W, Keeps w W → Calls Try.prog 98 #[.pointer (some ⟨mb, 0, none⟩), .agg #[.int .u8 r.form, .int .u8 r.top, .int .u8 r.bot, .int .u8 r.lo.tag, .int .u32 r.lo.to, .int .u8 r.hi.tag, .int .u32 r.hi.to]] W fun e w' => e = .returned (.int .u32 0) ∧ Keeps W w')
    (hr : ∀ W, Calls Try.prog 99 #[.agg #[.int .u8 r.form, .int .u8 r.top, .int .u8 r.bot, .int .u8 r.lo.tag, .int .u32 r.lo.to, .int .u8 r.hi.tag, .int .u32 r.hi.to], .int .i64 n] W fun e w' => e = .returned (.bool true) ∧ Keeps W w')
    (hlo : ∀ W, Keeps w W → Calls Try.prog 22 #[.pointer (some ⟨mb, 0, none⟩), .int .u8 r.form, .agg #[.int .u8 r.lo.tag, .int .u32 r.lo.to], .int .i64 (r.bot + 1)] W fun e w' => e = .returned (.bool true) ∧ Keeps W w')
    (hhi : ∀ W, Keeps w W → Calls Try.prog 22 #[.pointer (some ⟨mb, 0, none⟩), .int .u8 r.form, .agg #[.int .u8 r.hi.tag, .int .u32 r.hi.to], .int .i64 (r.bot + 1)] W fun e w' => e = .returned (.bool false) ∧ Keeps W w')
    : Calls Try.prog 59 #[.pointer (some ⟨mb, 0, none⟩), .agg #[.int .u8 r.form, .int .u8 r.top, .int .u8 r.bot, .int .u8 r.lo.tag, .int .u32 r.lo.to, .int .u8 r.hi.tag, .int .u32 r.hi.to]] w fun e w' => e = .returned (.tuple #[.int .u32 0, .int .i64 1]) ∧ Keeps w w' := by
  have hmb : mb < w.heap.size := lt_of_cell c3
  have Hg := Lib.hid hg
  have Hr := Lib.hid hr
  have Hlo := Lib.hid hlo
  have Hhi := Lib.hid hhi
  clear hg hr hlo hhi
  go_enter Try.func59, Try.ntmps59
  go_wp2_with (first | (go_at_call 98; refine (Hg.out _ (by (repeat (first | with_reducible exact Keeps.refl _ | with_reducible assumption | with_reducible refine Keeps.alloc ?_ _ | with_reducible refine Keeps.drewN ?_ _ | with_reducible refine Keeps.drew ?_ | refine Keeps.setCell ?_ (by dsimp only; omega) _ | with_reducible refine Keeps.trans ?_ (by assumption))))).mono ?_; rintro e w1 ⟨rfl, hb⟩; have hwb : Keeps (w.alloc (.cells #[.int .u8 r.form, .int .u8 r.top, .int .u8 r.bot, .int .u8 r.lo.tag, .int .u32 r.lo.to, .int .u8 r.hi.tag, .int .u32 r.hi.to] 58)) w1 := (by (repeat (first | with_reducible exact Keeps.refl _ | with_reducible assumption | with_reducible refine Keeps.alloc ?_ _ | with_reducible refine Keeps.drewN ?_ _ | with_reducible refine Keeps.drew ?_ | refine Keeps.setCell ?_ (by dsimp only; omega) _ | with_reducible refine Keeps.trans ?_ (by assumption)))); obtain ⟨y0, y1, y2, y3, y4, y5, y6⟩ := box7 hwb; have hk : Keeps w w1 := (((Keeps.refl _).alloc _).trans hwb); have hsz := hwb.size; simp only [World.size_alloc] at hsz; have d3 := hk.cell c3) | fail)
  have d3k := KWorld.cell d3
  have y0k := KWorld.cell y0
  have y1k := KWorld.cell y1
  have y2k := KWorld.cell y2
  have y3k := KWorld.cell y3
  have y4k := KWorld.cell y4
  have y5k := KWorld.cell y5
  have y6k := KWorld.cell y6
  refine wp_region_keeps (w1) (by kernel_rfl) (by kernel_rfl) (by (repeat (first | with_reducible exact Keeps.refl _ | with_reducible assumption | with_reducible refine Keeps.alloc ?_ _ | with_reducible refine Keeps.drewN ?_ _ | with_reducible refine Keeps.drew ?_ | refine Keeps.setCell ?_ (by dsimp only; omega) _ | with_reducible refine Keeps.trans ?_ (by assumption)))) ?_; (repeat (go_big_quiet_step ((first | (go_at_call 99; refine Calls.keepsK (Hr.out _)) | (go_at_call 22; with_reducible refine Calls.keepsK (Hlo.out _ (hk.trans (KWorld.keep _)))) | (go_at_call 22; with_reducible refine Calls.keepsK (Hhi.out _ (hk.trans (KWorld.keep _)))))))); refine wpQuiet_nil ?_; rintro wq ⟨⟨_, hkq⟩, rfl⟩; try dsimp only
  go_wp2
  go_ret2
  exact ⟨rfl, by (repeat (first | with_reducible exact Keeps.refl _ | with_reducible assumption | with_reducible refine Keeps.alloc ?_ _ | with_reducible refine Keeps.drewN ?_ _ | with_reducible refine Keeps.drew ?_ | refine Keeps.setCell ?_ (by dsimp only; omega) _ | with_reducible refine Keeps.trans ?_ (by assumption)))⟩

set_option maxRecDepth 100000 in
theorem rfind_full (mb : Nat) (r : Rec) (hb1 : 0 ≤ r.bot) (hb2 : r.bot ≤ 255) (n room : Int) (al : Option Addr) (len cap : Nat) (w : World)
    (c3 : w.cell? ⟨mb, 3, none⟩ = some (.int .i64 n)) (c0 : w.cell? ⟨mb, 0, none⟩ = some (.slice al len cap)) (c4 : w.cell? ⟨mb, 4, none⟩ = some (.int .i64 room)) (hfull : room ≤ (len : Int))
    (hg : ∀ W, Keeps w W → Calls Try.prog 98 #[.pointer (some ⟨mb, 0, none⟩), .agg #[.int .u8 r.form, .int .u8 r.top, .int .u8 r.bot, .int .u8 r.lo.tag, .int .u32 r.lo.to, .int .u8 r.hi.tag, .int .u32 r.hi.to]] W fun e w' => e = .returned (.int .u32 0) ∧ Keeps W w')
    (hr : ∀ W, Calls Try.prog 99 #[.agg #[.int .u8 r.form, .int .u8 r.top, .int .u8 r.bot, .int .u8 r.lo.tag, .int .u32 r.lo.to, .int .u8 r.hi.tag, .int .u32 r.hi.to], .int .i64 n] W fun e w' => e = .returned (.bool true) ∧ Keeps W w')
    (hlo : ∀ W, Keeps w W → Calls Try.prog 22 #[.pointer (some ⟨mb, 0, none⟩), .int .u8 r.form, .agg #[.int .u8 r.lo.tag, .int .u32 r.lo.to], .int .i64 (r.bot + 1)] W fun e w' => e = .returned (.bool true) ∧ Keeps W w')
    (hhi : ∀ W, Keeps w W → Calls Try.prog 22 #[.pointer (some ⟨mb, 0, none⟩), .int .u8 r.form, .agg #[.int .u8 r.hi.tag, .int .u32 r.hi.to], .int .i64 (r.bot + 1)] W fun e w' => e = .returned (.bool true) ∧ Keeps W w')
    : Calls Try.prog 59 #[.pointer (some ⟨mb, 0, none⟩), .agg #[.int .u8 r.form, .int .u8 r.top, .int .u8 r.bot, .int .u8 r.lo.tag, .int .u32 r.lo.to, .int .u8 r.hi.tag, .int .u32 r.hi.to]] w fun e w' => e = .returned (.tuple #[.int .u32 0, .int .i64 6]) ∧ Keeps w w' := by
  have hmb : mb < w.heap.size := lt_of_cell c3
  have Hg := Lib.hid hg
  have Hr := Lib.hid hr
  have Hlo := Lib.hid hlo
  have Hhi := Lib.hid hhi
  clear hg hr hlo hhi
  go_enter Try.func59, Try.ntmps59
  go_wp2_with (first | (go_at_call 98; refine (Hg.out _ (by (repeat (first | with_reducible exact Keeps.refl _ | with_reducible assumption | with_reducible refine Keeps.alloc ?_ _ | with_reducible refine Keeps.drewN ?_ _ | with_reducible refine Keeps.drew ?_ | refine Keeps.setCell ?_ (by dsimp only; omega) _ | with_reducible refine Keeps.trans ?_ (by assumption))))).mono ?_; rintro e w1 ⟨rfl, hb⟩; have hwb : Keeps (w.alloc (.cells #[.int .u8 r.form, .int .u8 r.top, .int .u8 r.bot, .int .u8 r.lo.tag, .int .u32 r.lo.to, .int .u8 r.hi.tag, .int .u32 r.hi.to] 58)) w1 := (by (repeat (first | with_reducible exact Keeps.refl _ | with_reducible assumption | with_reducible refine Keeps.alloc ?_ _ | with_reducible refine Keeps.drewN ?_ _ | with_reducible refine Keeps.drew ?_ | refine Keeps.setCell ?_ (by dsimp only; omega) _ | with_reducible refine Keeps.trans ?_ (by assumption)))); obtain ⟨y0, y1, y2, y3, y4, y5, y6⟩ := box7 hwb; have hk : Keeps w w1 := (((Keeps.refl _).alloc _).trans hwb); have hsz := hwb.size; simp only [World.size_alloc] at hsz; have d3 := hk.cell c3) | fail)
  have d3k := KWorld.cell d3
  have y0k := KWorld.cell y0
  have y1k := KWorld.cell y1
  have y2k := KWorld.cell y2
  have y3k := KWorld.cell y3
  have y4k := KWorld.cell y4
  have y5k := KWorld.cell y5
  have y6k := KWorld.cell y6
  refine wp_region_keeps (w1) (by kernel_rfl) (by kernel_rfl) (by (repeat (first | with_reducible exact Keeps.refl _ | with_reducible assumption | with_reducible refine Keeps.alloc ?_ _ | with_reducible refine Keeps.drewN ?_ _ | with_reducible refine Keeps.drew ?_ | refine Keeps.setCell ?_ (by dsimp only; omega) _ | with_reducible refine Keeps.trans ?_ (by assumption)))) ?_; (repeat (go_big_quiet_step ((first | (go_at_call 99; refine Calls.keepsK (Hr.out _)) | (go_at_call 22; with_reducible refine Calls.keepsK (Hlo.out _ (hk.trans (KWorld.keep _)))) | (go_at_call 22; with_reducible refine Calls.keepsK (Hhi.out _ (hk.trans (KWorld.keep _)))))))); refine wpQuiet_nil ?_; rintro wq ⟨⟨_, hkq⟩, rfl⟩; try dsimp only
  have hkw : Keeps w wq := hk.trans hkq
  have e0 := hkw.cell c0
  have e4 := hkw.cell c4
  go_wp2
  go_quiet (fail)
  go_wp2
  go_ret2
  exact ⟨rfl, by (repeat (first | with_reducible exact Keeps.refl _ | with_reducible assumption | with_reducible refine Keeps.alloc ?_ _ | with_reducible refine Keeps.drewN ?_ _ | with_reducible refine Keeps.drew ?_ | refine Keeps.setCell ?_ (by dsimp only; omega) _ | with_reducible refine Keeps.trans ?_ (by assumption)))⟩

set_option maxRecDepth 100000 in
theorem rfind_more (mb : Nat) (r : Rec) (hb1 : 0 ≤ r.bot) (hb2 : r.bot ≤ 255) (n room : Int) (lv : Value) (len N : Nat) (xs : List Value) (ga : Option Addr) (gcap : Nat) (w : World)
    (c3 : w.cell? ⟨mb, 3, none⟩ = some (.int .i64 n)) (c0 : w.cell? ⟨mb, 0, none⟩ = some lv) (c1 : w.cell? ⟨mb, 1, none⟩ = some (.slice ga 0 gcap)) (c2 : w.cell? ⟨mb, 2, none⟩ = some (.int .u32 (N : Int))) (c4 : w.cell? ⟨mb, 4, none⟩ = some (.int .i64 room)) (hroom : (len : Int) < room) (hr2 : room ≤ 1048576) (hN : N ≤ 1048576)
    (hf0 : w.frozen? ⟨mb, 0, none⟩ = false) (hf2 : w.frozen? ⟨mb, 2, none⟩ = false) (hown : w.ownsRow 0 87 8 lv len xs) (hne : lv.ownBlock ≠ some mb)
    (hg : ∀ W, Keeps w W → Calls Try.prog 98 #[.pointer (some ⟨mb, 0, none⟩), .agg #[.int .u8 r.form, .int .u8 r.top, .int .u8 r.bot, .int .u8 r.lo.tag, .int .u32 r.lo.to, .int .u8 r.hi.tag, .int .u32 r.hi.to]] W fun e w' => e = .returned (.int .u32 0) ∧ Keeps W w')
    (hr : ∀ W, Calls Try.prog 99 #[.agg #[.int .u8 r.form, .int .u8 r.top, .int .u8 r.bot, .int .u8 r.lo.tag, .int .u32 r.lo.to, .int .u8 r.hi.tag, .int .u32 r.hi.to], .int .i64 n] W fun e w' => e = .returned (.bool true) ∧ Keeps W w')
    (hlo : ∀ W, Keeps w W → Calls Try.prog 22 #[.pointer (some ⟨mb, 0, none⟩), .int .u8 r.form, .agg #[.int .u8 r.lo.tag, .int .u32 r.lo.to], .int .i64 (r.bot + 1)] W fun e w' => e = .returned (.bool true) ∧ Keeps W w')
    (hhi : ∀ W, Keeps w W → Calls Try.prog 22 #[.pointer (some ⟨mb, 0, none⟩), .int .u8 r.form, .agg #[.int .u8 r.hi.tag, .int .u32 r.hi.to], .int .i64 (r.bot + 1)] W fun e w' => e = .returned (.bool true) ∧ Keeps W w')
    : Calls Try.prog 59 #[.pointer (some ⟨mb, 0, none⟩), .agg #[.int .u8 r.form, .int .u8 r.top, .int .u8 r.bot, .int .u8 r.lo.tag, .int .u32 r.lo.to, .int .u8 r.hi.tag, .int .u32 r.hi.to]] w fun e w' => e = .returned (.tuple #[.int .u32 ((N : Int) + 2), .int .i64 0]) ∧
      ∃ g cap w1 W, Upd (fun k => k = mb) w W ∧ (∀ cs, w.heap[mb]? = some (.cells cs 83 (0, 0)) → W.heap[mb]? = some (.cells (cs.setIfInBounds 2 (.int .u32 ((N : Int) + 1))) 83 (0, 0))) ∧ W.grownBy w1 lv.ownBlock ∧ (lv.ownBlock = some g ∨ W.heap.size ≤ g) ∧ w1.ownsRow 0 87 8 (.slice (some ⟨g, 0, none⟩) (len + 1) cap) (len + 1) (xs ++ nodeVals ((N : Int) + 2, r)) ∧ w' = w1.setCell ⟨mb, 0, none⟩ (.slice (some ⟨g, 0, none⟩) (len + 1) cap) := by
  obtain ⟨la, lcap, rfl, -⟩ := owns_slice hown
  obtain ⟨i0, hi, hz0, hz1, hz2⟩ := info_parts info_node
  have HN := Lib.hid hne
  have HO := Lib.hid hown
  clear hne hown
  have hmb : mb < w.heap.size := lt_of_cell c3
  have Hg := Lib.hid hg
  have Hr := Lib.hid hr
  have Hlo := Lib.hid hlo
  have Hhi := Lib.hid hhi
  clear hg hr hlo hhi
  go_enter Try.func59, Try.ntmps59
  go_wp2_with (first | (go_at_call 98; refine (Hg.out _ (by (repeat (first | with_reducible exact Keeps.refl _ | with_reducible assumption | with_reducible refine Keeps.alloc ?_ _ | with_reducible refine Keeps.drewN ?_ _ | with_reducible refine Keeps.drew ?_ | refine Keeps.setCell ?_ (by dsimp only; omega) _ | with_reducible refine Keeps.trans ?_ (by assumption))))).mono ?_; rintro e w1 ⟨rfl, hb⟩; have hwb : Keeps (w.alloc (.cells #[.int .u8 r.form, .int .u8 r.top, .int .u8 r.bot, .int .u8 r.lo.tag, .int .u32 r.lo.to, .int .u8 r.hi.tag, .int .u32 r.hi.to] 58)) w1 := (by (repeat (first | with_reducible exact Keeps.refl _ | with_reducible assumption | with_reducible refine Keeps.alloc ?_ _ | with_reducible refine Keeps.drewN ?_ _ | with_reducible refine Keeps.drew ?_ | refine Keeps.setCell ?_ (by dsimp only; omega) _ | with_reducible refine Keeps.trans ?_ (by assumption)))); obtain ⟨y0, y1, y2, y3, y4, y5, y6⟩ := box7 hwb; have hk : Keeps w w1 := (((Keeps.refl _).alloc _).trans hwb); have hsz := hwb.size; simp only [World.size_alloc] at hsz; have d3 := hk.cell c3) | fail)
  have d3k := KWorld.cell d3
  have y0k := KWorld.cell y0
  have y1k := KWorld.cell y1
  have y2k := KWorld.cell y2
  have y3k := KWorld.cell y3
  have y4k := KWorld.cell y4
  have y5k := KWorld.cell y5
  have y6k := KWorld.cell y6
  refine wp_region_keeps (w1) (by kernel_rfl) (by kernel_rfl) (by (repeat (first | with_reducible exact Keeps.refl _ | with_reducible assumption | with_reducible refine Keeps.alloc ?_ _ | with_reducible refine Keeps.drewN ?_ _ | with_reducible refine Keeps.drew ?_ | refine Keeps.setCell ?_ (by dsimp only; omega) _ | with_reducible refine Keeps.trans ?_ (by assumption)))) ?_; (repeat (go_big_quiet_step ((first | (go_at_call 99; refine Calls.keepsK (Hr.out _)) | (go_at_call 22; with_reducible refine Calls.keepsK (Hlo.out _ (hk.trans (KWorld.keep _)))) | (go_at_call 22; with_reducible refine Calls.keepsK (Hhi.out _ (hk.trans (KWorld.keep _)))))))); refine wpQuiet_nil ?_; rintro wq ⟨⟨_, hkq⟩, rfl⟩; try dsimp only
  have hkw : Keeps w wq := hk.trans hkq
  have e0 := hkw.cell c0
  have e1 := hkw.cell c1
  have e2 := hkw.cell c2
  have e4 := hkw.cell c4
  obtain ⟨z0, z1, z2, z3, z4, z5, z6⟩ := hkq.cell7 ⟨y0, y1, y2, y3, y4, y5, y6⟩
  have hfz := hkw.cells.2
  have f0 := (hfz mb 0 hmb).trans hf0
  have f2 := (hfz mb 2 hmb).trans hf2
  have hq1 : mb < wq.heap.size := lt_of_cell e0
  have hq2 : w.heap.size < wq.heap.size := lt_of_cell z0
  have hq3 : mb ≠ w.heap.size := by omega
  have hq4 : w.heap.size ≠ mb := by omega
  have hq5 : mb < wq.heap.size + 1 := by omega
  have HB := Lib.hid hb
  have HZ := Lib.hid hsz
  clear c0 c1 c2 c4 d3 d3k y0 y1 y2 y3 y4 y5 y6 y0k y1k y2k y3k y4k y5k y6k hfz hb hsz
  go_wp2
  go_quiet (fail)
  go_wp2
  go_region_law (refine step_append_own rfl (.tmp 104) (.tmp 108) 81 rfl 0 87 i0 _ 8 24 Try.underlying81 hi hz0 hz1 hz2 rfl (by decide) (.slice la len lcap) len xs rfl ?_ _ 1 1 (nodeVals ((N : Int) + 2, r)) rfl rfl ?_ ?_ ?_ ?_ (Nat.zero_le _) ?_; exact Upd.owns (F := fun k => k = mb) (by (repeat (first | with_reducible exact Upd.refl _ _ | with_reducible assumption | with_reducible exact Keeps.upd (by assumption) _ | with_reducible refine Upd.alloc ?_ _ | with_reducible refine Upd.drewN ?_ _ | with_reducible refine Upd.drew ?_ | refine Upd.setCell ?_ (Or.inl (by first | rfl | assumption)) _ | refine Upd.setCell ?_ (Or.inr (by dsimp only; omega)) _ | with_reducible refine Upd.trans' ?_ (by assumption) | with_reducible refine Upd.trans' ?_ (Keeps.upd (by assumption) _)))) (fun k h e => HN.out (e ▸ h)) HO.out; exact cell_newd _ _ _ _ (by simp); (intro u hu; simp [nodeVals, recVals] at hu; rcases hu with rfl | rfl | rfl | rfl | rfl | rfl | rfl | rfl <;> rfl); (unfold maxLen; omega); omega; intro v' w2 hown1 hgrow hfresh; (obtain ⟨g, cap, rfl⟩ := owns_shape hown1 (by omega)); have k0 := grown_cell (o := 0) (v := .slice la len lcap) hgrow HN.out (by simp [go_sem, e0, hq1, hq5]); have e9 := grown_frozen (o := 0) hgrow (by simp; omega) HN.out (by simp [go_sem, f0, hq1, hq5]))
  all_goals go_wp2
  all_goals go_ret2
  all_goals refine ⟨?_, g, cap, w2, _, ?_, ?_, hgrow, hfresh g rfl, hown1, rfl⟩
  all_goals first | ((repeat (first | with_reducible exact Upd.refl _ _ | with_reducible assumption | with_reducible exact Keeps.upd (by assumption) _ | with_reducible refine Upd.alloc ?_ _ | with_reducible refine Upd.drewN ?_ _ | with_reducible refine Upd.drew ?_ | refine Upd.setCell ?_ (Or.inl (by first | rfl | assumption)) _ | refine Upd.setCell ?_ (Or.inr (by dsimp only; omega)) _ | with_reducible refine Upd.trans' ?_ (by assumption) | with_reducible refine Upd.trans' ?_ (Keeps.upd (by assumption) _))); done) | (simp; done) | skip
  all_goals (intro cs hcs; have q1 : (wq.drewN nq).heap[mb]? = some (.cells cs 83 (0, 0)) := hkw.heap hcs)
  all_goals (have q2 := heap_setCell_same _ mb 2 _ _ (.int .u32 ((N : Int) + 1)) q1; have q3 := lt_of_heap q2; (repeat (first | exact q2 | refine (Below.heap_alloc _ _ _ (by simp at q3 ⊢; omega)).trans ?_ | (show (World.alloc _ _).heap[mb]? = _))))

set_option maxRecDepth 100000 in
theorem rfind_free (mb : Nat) (r : Rec) (hb1 : 0 ≤ r.bot) (hb2 : r.bot ≤ 255) (n room : Int) (lv : Value) (len k gb : Nat) (id : Int) (xs : List Value) (gcap : Nat) (N : Int) (w : World)
    (c3 : w.cell? ⟨mb, 3, none⟩ = some (.int .i64 n)) (c0 : w.cell? ⟨mb, 0, none⟩ = some lv) (c1 : w.cell? ⟨mb, 1, none⟩ = some (.slice (some ⟨gb, 0, none⟩) (k + 1) gcap)) (c2 : w.cell? ⟨mb, 2, none⟩ = some (.int .u32 N)) (c4 : w.cell? ⟨mb, 4, none⟩ = some (.int .i64 room)) (hroom : (len : Int) < room) (hr2 : room ≤ 1048576) (hN : 0 ≤ N ∧ N ≤ 1048576) (hk0 : k < 1048576) (hkc : k + 1 ≤ gcap) (hid : w.cell? ⟨gb, k, none⟩ = some (.int .u32 id)) (hgm : gb ≠ mb)
    (hf0 : w.frozen? ⟨mb, 0, none⟩ = false) (hf1 : w.frozen? ⟨mb, 1, none⟩ = false) (hown : w.ownsRow 0 87 8 lv len xs) (hne : lv.ownBlock ≠ some mb)
    (hg : ∀ W, Keeps w W → Calls Try.prog 98 #[.pointer (some ⟨mb, 0, none⟩), .agg #[.int .u8 r.form, .int .u8 r.top, .int .u8 r.bot, .int .u8 r.lo.tag, .int .u32 r.lo.to, .int .u8 r.hi.tag, .int .u32 r.hi.to]] W fun e w' => e = .returned (.int .u32 0) ∧ Keeps W w')
    (hr : ∀ W, Calls Try.prog 99 #[.agg #[.int .u8 r.form, .int .u8 r.top, .int .u8 r.bot, .int .u8 r.lo.tag, .int .u32 r.lo.to, .int .u8 r.hi.tag, .int .u32 r.hi.to], .int .i64 n] W fun e w' => e = .returned (.bool true) ∧ Keeps W w')
    (hlo : ∀ W, Keeps w W → Calls Try.prog 22 #[.pointer (some ⟨mb, 0, none⟩), .int .u8 r.form, .agg #[.int .u8 r.lo.tag, .int .u32 r.lo.to], .int .i64 (r.bot + 1)] W fun e w' => e = .returned (.bool true) ∧ Keeps W w')
    (hhi : ∀ W, Keeps w W → Calls Try.prog 22 #[.pointer (some ⟨mb, 0, none⟩), .int .u8 r.form, .agg #[.int .u8 r.hi.tag, .int .u32 r.hi.to], .int .i64 (r.bot + 1)] W fun e w' => e = .returned (.bool true) ∧ Keeps W w')
    : Calls Try.prog 59 #[.pointer (some ⟨mb, 0, none⟩), .agg #[.int .u8 r.form, .int .u8 r.top, .int .u8 r.bot, .int .u8 r.lo.tag, .int .u32 r.lo.to, .int .u8 r.hi.tag, .int .u32 r.hi.to]] w fun e w' => e = .returned (.tuple #[.int .u32 id, .int .i64 0]) ∧
      ∃ g cap w1 W, Upd (fun k => k = mb) w W ∧ (∀ cs, w.heap[mb]? = some (.cells cs 83 (0, 0)) → W.heap[mb]? = some (.cells (cs.setIfInBounds 1 (.slice (some ⟨gb, 0, none⟩) k gcap)) 83 (0, 0))) ∧ W.grownBy w1 lv.ownBlock ∧ (lv.ownBlock = some g ∨ W.heap.size ≤ g) ∧ w1.ownsRow 0 87 8 (.slice (some ⟨g, 0, none⟩) (len + 1) cap) (len + 1) (xs ++ nodeVals (id, r)) ∧ w' = w1.setCell ⟨mb, 0, none⟩ (.slice (some ⟨g, 0, none⟩) (len + 1) cap) := by
  obtain ⟨la, lcap, rfl, -⟩ := owns_slice hown
  obtain ⟨i0, hi, hz0, hz1, hz2⟩ := info_parts info_node
  have HN := Lib.hid hne
  have HO := Lib.hid hown
  clear hne hown
  have hmb : mb < w.heap.size := lt_of_cell c3
  have Hg := Lib.hid hg
  have Hr := Lib.hid hr
  have Hlo := Lib.hid hlo
  have Hhi := Lib.hid hhi
  clear hg hr hlo hhi
  go_enter Try.func59, Try.ntmps59
  go_wp2_with (first | (go_at_call 98; refine (Hg.out _ (by (repeat (first | with_reducible exact Keeps.refl _ | with_reducible assumption | with_reducible refine Keeps.alloc ?_ _ | with_reducible refine Keeps.drewN ?_ _ | with_reducible refine Keeps.drew ?_ | refine Keeps.setCell ?_ (by dsimp only; omega) _ | with_reducible refine Keeps.trans ?_ (by assumption))))).mono ?_; rintro e w1 ⟨rfl, hb⟩; have hwb : Keeps (w.alloc (.cells #[.int .u8 r.form, .int .u8 r.top, .int .u8 r.bot, .int .u8 r.lo.tag, .int .u32 r.lo.to, .int .u8 r.hi.tag, .int .u32 r.hi.to] 58)) w1 := (by (repeat (first | with_reducible exact Keeps.refl _ | with_reducible assumption | with_reducible refine Keeps.alloc ?_ _ | with_reducible refine Keeps.drewN ?_ _ | with_reducible refine Keeps.drew ?_ | refine Keeps.setCell ?_ (by dsimp only; omega) _ | with_reducible refine Keeps.trans ?_ (by assumption)))); obtain ⟨y0, y1, y2, y3, y4, y5, y6⟩ := box7 hwb; have hk : Keeps w w1 := (((Keeps.refl _).alloc _).trans hwb); have hsz := hwb.size; simp only [World.size_alloc] at hsz; have d3 := hk.cell c3) | fail)
  have d3k := KWorld.cell d3
  have y0k := KWorld.cell y0
  have y1k := KWorld.cell y1
  have y2k := KWorld.cell y2
  have y3k := KWorld.cell y3
  have y4k := KWorld.cell y4
  have y5k := KWorld.cell y5
  have y6k := KWorld.cell y6
  refine wp_region_keeps (w1) (by kernel_rfl) (by kernel_rfl) (by (repeat (first | with_reducible exact Keeps.refl _ | with_reducible assumption | with_reducible refine Keeps.alloc ?_ _ | with_reducible refine Keeps.drewN ?_ _ | with_reducible refine Keeps.drew ?_ | refine Keeps.setCell ?_ (by dsimp only; omega) _ | with_reducible refine Keeps.trans ?_ (by assumption)))) ?_; (repeat (go_big_quiet_step ((first | (go_at_call 99; refine Calls.keepsK (Hr.out _)) | (go_at_call 22; with_reducible refine Calls.keepsK (Hlo.out _ (hk.trans (KWorld.keep _)))) | (go_at_call 22; with_reducible refine Calls.keepsK (Hhi.out _ (hk.trans (KWorld.keep _)))))))); refine wpQuiet_nil ?_; rintro wq ⟨⟨_, hkq⟩, rfl⟩; try dsimp only
  have hkw : Keeps w wq := hk.trans hkq
  have e0 := hkw.cell c0
  have e1 := hkw.cell c1
  have e2 := hkw.cell c2
  have e4 := hkw.cell c4
  obtain ⟨z0, z1, z2, z3, z4, z5, z6⟩ := hkq.cell7 ⟨y0, y1, y2, y3, y4, y5, y6⟩
  have hfz := hkw.cells.2
  have f0 := (hfz mb 0 hmb).trans hf0
  have f1 := (hfz mb 1 hmb).trans hf1
  have g1 := hkw.cell hid
  obtain ⟨N0, N1⟩ := hN
  have hgb : gb < wq.heap.size := lt_of_cell g1
  have hq1 : mb < wq.heap.size := lt_of_cell e0
  have hq2 : w.heap.size < wq.heap.size := lt_of_cell z0
  have hq3 : mb ≠ w.heap.size := by omega
  have hq4 : w.heap.size ≠ mb := by omega
  have hq5 : mb < wq.heap.size + 1 := by omega
  have HB := Lib.hid hb
  have HZ := Lib.hid hsz
  clear c0 c1 c2 c4 hid d3 d3k y0 y1 y2 y3 y4 y5 y6 y0k y1k y2k y3k y4k y5k y6k hfz hb hsz
  go_wp2
  go_quiet (fail)
  go_wp2
  go_quiet (fail)
  go_wp2
  go_region
  go_wp2
  go_region_law (refine step_append_own rfl (.tmp 104) (.tmp 108) 81 rfl 0 87 i0 _ 8 24 Try.underlying81 hi hz0 hz1 hz2 rfl (by decide) (.slice la len lcap) len xs rfl ?_ _ 1 1 (nodeVals (id, r)) rfl rfl ?_ ?_ ?_ ?_ (Nat.zero_le _) ?_; exact Upd.owns (F := fun k => k = mb) (by (repeat (first | with_reducible exact Upd.refl _ _ | with_reducible assumption | with_reducible exact Keeps.upd (by assumption) _ | with_reducible refine Upd.alloc ?_ _ | with_reducible refine Upd.drewN ?_ _ | with_reducible refine Upd.drew ?_ | refine Upd.setCell ?_ (Or.inl (by first | rfl | assumption)) _ | refine Upd.setCell ?_ (Or.inr (by dsimp only; omega)) _ | with_reducible refine Upd.trans' ?_ (by assumption) | with_reducible refine Upd.trans' ?_ (Keeps.upd (by assumption) _)))) (fun k h e => HN.out (e ▸ h)) HO.out; exact cell_newd _ _ _ _ (by simp); (intro u hu; simp [nodeVals, recVals] at hu; rcases hu with rfl | rfl | rfl | rfl | rfl | rfl | rfl | rfl <;> rfl); (unfold maxLen; omega); omega; intro v' w2 hown1 hgrow hfresh; (obtain ⟨g, cap, rfl⟩ := owns_shape hown1 (by omega)); have k0 := grown_cell (o := 0) (v := .slice la len lcap) hgrow HN.out (by simp [go_sem, e0, hq1, hq5]); have e9 := grown_frozen (o := 0) hgrow (by simp; omega) HN.out (by simp [go_sem, f0, hq1, hq5]))
  all_goals go_wp2
  all_goals go_ret2
  all_goals refine ⟨?_, g, cap, w2, _, ?_, ?_, hgrow, hfresh g rfl, hown1, rfl⟩
  all_goals first | ((repeat (first | with_reducible exact Upd.refl _ _ | with_reducible assumption | with_reducible exact Keeps.upd (by assumption) _ | with_reducible refine Upd.alloc ?_ _ | with_reducible refine Upd.drewN ?_ _ | with_reducible refine Upd.drew ?_ | refine Upd.setCell ?_ (Or.inl (by first | rfl | assumption)) _ | refine Upd.setCell ?_ (Or.inr (by dsimp only; omega)) _ | with_reducible refine Upd.trans' ?_ (by assumption) | with_reducible refine Upd.trans' ?_ (Keeps.upd (by assumption) _))); done) | (simp; done) | skip
  all_goals (intro cs hcs; have q1 : (wq.drewN nq).heap[mb]? = some (.cells cs 83 (0, 0)) := hkw.heap hcs)
  all_goals (have q2 := heap_setCell_same _ mb 1 _ _ (.slice (some ⟨gb, 0, none⟩) k gcap) q1; have q3 := lt_of_heap q2; (repeat (first | exact q2 | refine (Below.heap_alloc _ _ _ (by simp at q3 ⊢; omega)).trans ?_ | (show (World.alloc _ _).heap[mb]? = _))))

end Go.Proofs.Ytimffidpbcflaaa
