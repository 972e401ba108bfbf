/-
  The walk of store.Find.
-/
import Derived.Test.YtimffidpbcflaaaLeads
import Derived.Test.YtimffidpbcflaaaQuietK
namespace Go.Proofs.Ytimffidpbcflaaa
set_option linter.unusedSimpArgs false
set_option linter.unusedVariables false
set_option maxHeartbeats 600000
open Go.RowKit

theorem Upd.cell {F : Nat → Prop} {w w' : World} (h : Upd F w w') {a : Addr} {v : Value} (hf : ¬ F a.block) (hc : w.cell? a = some v) : w'.cell? a = some v :=
  (World.cell?_of_block (h.block a.block (lt_of_cell hc) hf)).trans hc

theorem Upd.frozen {F : Nat → Prop} {w w' : World} (h : Upd F w w') {a : Addr} (hl : a.block < w.heap.size) (hf : ¬ F a.block) (hc : w.frozen? a = false) : w'.frozen? a = false :=
  (World.frozen?_of_block (h.block a.block hl hf)).trans hc

theorem Upd.cell7 {F : Nat → Prop} {w w1 : World} (h : Upd F w w1) {k : Nat} (hf : ¬ F k) {a b c d e f g : Value}
    (hb : w.cell? ⟨k, 0, none⟩ = some a ∧ w.cell? ⟨k, 1, none⟩ = some b ∧ w.cell? ⟨k, 2, none⟩ = some c ∧ w.cell? ⟨k, 3, none⟩ = some d ∧ w.cell? ⟨k, 4, none⟩ = some e ∧ w.cell? ⟨k, 5, none⟩ = some f ∧ w.cell? ⟨k, 6, none⟩ = some g) :
    w1.cell? ⟨k, 0, none⟩ = some a ∧ w1.cell? ⟨k, 1, none⟩ = some b ∧ w1.cell? ⟨k, 2, none⟩ = some c ∧ w1.cell? ⟨k, 3, none⟩ = some d ∧ w1.cell? ⟨k, 4, none⟩ = some e ∧ w1.cell? ⟨k, 5, none⟩ = some f ∧ w1.cell? ⟨k, 6, none⟩ = some g := by
  obtain ⟨h0, h1, h2, h3, h4, h5, h6⟩ := hb
  exact ⟨h.cell hf h0, h.cell hf h1, h.cell hf h2, h.cell hf h3, h.cell hf h4, h.cell hf h5, h.cell hf h6⟩


set_option maxRecDepth 100000 in
theorem sfind_old (sb ib : Nat) (r : Rec) (id : Int) (n : Int) (a1 : Value) (w : World)
    (c0 : w.cell? ⟨sb, 0, none⟩ = some (.int .i64 n)) (c1 : w.cell? ⟨sb, 1, none⟩ = some a1) (c2 : w.cell? ⟨sb, 2, none⟩ = some (.pointer (some ⟨ib, 0, none⟩)))
    (hg : ∀ W, Keeps w W → Calls Try.prog 76 #[.pointer (some ⟨ib, 0, none⟩), .agg #[.int .u8 r.form, .int .u8 r.top, .int .u8 r.bot, .int .u8 r.lo.tag, .int .u32 r.lo.to, .int .u8 r.hi.tag, .int .u32 r.hi.to]] W fun e w' => e = .returned (.tuple #[.int .u32 id, .bool true]) ∧ Keeps W w') :
    Calls Try.prog 42 #[.pointer (some ⟨sb, 0, none⟩), .agg #[.int .u8 r.form, .int .u8 r.top, .int .u8 r.bot, .int .u8 r.lo.tag, .int .u32 r.lo.to, .int .u8 r.hi.tag, .int .u32 r.hi.to]] w fun e w' => e = .returned (.tuple #[.int .u32 id, .int .u8 0]) ∧ Keeps w w' := by
  have hsb : sb < w.heap.size := lt_of_cell c0
  have Hg := Lib.hid hg
  clear hg
  go_enter Try.func42, Try.ntmps42
  go_wp2_with fail
  go_region_held3 (fun w' => w'.cell? ⟨sb, 2, none⟩ = some (.pointer (some ⟨ib, 0, none⟩)) ∧ (w'.cell? ⟨w.heap.size, 0, none⟩ = some (.int .u8 r.form) ∧ w'.cell? ⟨w.heap.size, 1, none⟩ = some (.int .u8 r.top) ∧ w'.cell? ⟨w.heap.size, 2, none⟩ = some (.int .u8 r.bot) ∧ w'.cell? ⟨w.heap.size, 3, none⟩ = some (.int .u8 r.lo.tag) ∧ w'.cell? ⟨w.heap.size, 4, none⟩ = some (.int .u32 r.lo.to) ∧ w'.cell? ⟨w.heap.size, 5, none⟩ = some (.int .u8 r.hi.tag) ∧ w'.cell? ⟨w.heap.size, 6, none⟩ = some (.int .u32 r.hi.to))) (go_keep) ((first | (go_at_call 76; refine (Hg.out _ (by (repeat (first | with_reducible exact Keeps.refl _ | with_reducible assumption | with_reducible refine Keeps.alloc ?_ _ | with_reducible refine Keeps.drewN ?_ _ | with_reducible refine Keeps.drew ?_ | refine Keeps.setCell ?_ (by dsimp only; omega) _ | with_reducible refine Keeps.trans ?_ (by assumption))))).mono ?_; rintro e w1 ⟨rfl, hb⟩; have hwb : Keeps (w.alloc (.cells #[.int .u8 r.form, .int .u8 r.top, .int .u8 r.bot, .int .u8 r.lo.tag, .int .u32 r.lo.to, .int .u8 r.hi.tag, .int .u32 r.hi.to] 58)) w1 := (by (repeat (first | with_reducible exact Keeps.refl _ | with_reducible assumption | with_reducible refine Keeps.alloc ?_ _ | with_reducible refine Keeps.drewN ?_ _ | with_reducible refine Keeps.drew ?_ | refine Keeps.setCell ?_ (by dsimp only; omega) _ | with_reducible refine Keeps.trans ?_ (by assumption)))); obtain ⟨y0, y1, y2, y3, y4, y5, y6⟩ := box7 hwb; have hk : Keeps w w1 := (((Keeps.refl _).alloc _).trans hwb); have hsz := hwb.size; simp only [World.size_alloc] at hsz; have d0 := hk.cell c0; have d1 := hk.cell c1; have d2 := hk.cell c2)))
  all_goals (go_wp2; go_ret2; exact ⟨rfl, by (repeat (first | with_reducible exact Keeps.refl _ | with_reducible assumption | with_reducible refine Keeps.alloc ?_ _ | with_reducible refine Keeps.drewN ?_ _ | with_reducible refine Keeps.drew ?_ | refine Keeps.setCell ?_ (by dsimp only; omega) _ | with_reducible refine Keeps.trans ?_ (by assumption)))⟩)

set_option maxRecDepth 100000 in
theorem sfind_bad1 (sb ib : Nat) (r : Rec) (hb1 : 0 ≤ r.bot) (hb2 : r.bot ≤ 255) (n : Int) (a1 : Value) (w : World)
    (c0 : w.cell? ⟨sb, 0, none⟩ = some (.int .i64 n)) (c1 : w.cell? ⟨sb, 1, none⟩ = some a1) (c2 : w.cell? ⟨sb, 2, none⟩ = some (.pointer (some ⟨ib, 0, none⟩)))
    (hg : ∀ W, Keeps w W → Calls Try.prog 76 #[.pointer (some ⟨ib, 0, none⟩), .agg #[.int .u8 r.form, .int .u8 r.top, .int .u8 r.bot, .int .u8 r.lo.tag, .int .u32 r.lo.to, .int .u8 r.hi.tag, .int .u32 r.hi.to]] W fun e w' => e = .returned (.tuple #[.int .u32 0, .bool false]) ∧ Keeps W w')
    (hr : ∀ W, Calls Try.prog 77 #[.agg #[.int .u8 r.form, .int .u8 r.top, .int .u8 r.bot, .int .u8 r.lo.tag, .int .u32 r.lo.to, .int .u8 r.hi.tag, .int .u32 r.hi.to], .int .i64 n] W fun e w' => e = .returned (.bool false) ∧ Keeps W w')
    : Calls Try.prog 42 #[.pointer (some ⟨sb, 0, none⟩), .agg #[.int .u8 r.form, .int .u8 r.top, .int .u8 r.bot, .int .u8 r.lo.tag, .int .u32 r.lo.to, .int .u8 r.hi.tag, .int .u32 r.hi.to]] w fun e w' => e = .returned (.tuple #[.int .u32 0, .int .u8 1]) ∧ Keeps w w' := by
  have hsb : sb < w.heap.size := lt_of_cell c0
  have Hg := Lib.hid hg
  have Hr := Lib.hid hr
  clear hg hr
  go_enter Try.func42, Try.ntmps42
  go_wp2_with fail
  go_region_held3 (fun w' => w'.cell? ⟨sb, 2, none⟩ = some (.pointer (some ⟨ib, 0, none⟩)) ∧ (w'.cell? ⟨w.heap.size, 0, none⟩ = some (.int .u8 r.form) ∧ w'.cell? ⟨w.heap.size, 1, none⟩ = some (.int .u8 r.top) ∧ w'.cell? ⟨w.heap.size, 2, none⟩ = some (.int .u8 r.bot) ∧ w'.cell? ⟨w.heap.size, 3, none⟩ = some (.int .u8 r.lo.tag) ∧ w'.cell? ⟨w.heap.size, 4, none⟩ = some (.int .u32 r.lo.to) ∧ w'.cell? ⟨w.heap.size, 5, none⟩ = some (.int .u8 r.hi.tag) ∧ w'.cell? ⟨w.heap.size, 6, none⟩ = some (.int .u32 r.hi.to))) (go_keep) ((first | (go_at_call 76; refine (Hg.out _ (by (repeat (first | with_reducible exact Keeps.refl _ | with_reducible assumption | with_reducible refine Keeps.alloc ?_ _ | with_reducible refine Keeps.drewN ?_ _ | with_reducible refine Keeps.drew ?_ | refine Keeps.setCell ?_ (by dsimp only; omega) _ | with_reducible refine Keeps.trans ?_ (by assumption))))).mono ?_; rintro e w1 ⟨rfl, hb⟩; have hwb : Keeps (w.alloc (.cells #[.int .u8 r.form, .int .u8 r.top, .int .u8 r.bot, .int .u8 r.lo.tag, .int .u32 r.lo.to, .int .u8 r.hi.tag, .int .u32 r.hi.to] 58)) w1 := (by (repeat (first | with_reducible exact Keeps.refl _ | with_reducible assumption | with_reducible refine Keeps.alloc ?_ _ | with_reducible refine Keeps.drewN ?_ _ | with_reducible refine Keeps.drew ?_ | refine Keeps.setCell ?_ (by dsimp only; omega) _ | with_reducible refine Keeps.trans ?_ (by assumption)))); obtain ⟨y0, y1, y2, y3, y4, y5, y6⟩ := box7 hwb; have hk : Keeps w w1 := (((Keeps.refl _).alloc _).trans hwb); have hsz := hwb.size; simp only [World.size_alloc] at hsz; have d0 := hk.cell c0; have d1 := hk.cell c1; have d2 := hk.cell c2)))
  go_wp2_with fail
  have d0k := KWorld.cell d0
  have y0k := KWorld.cell y0
  have y1k := KWorld.cell y1
  have y2k := KWorld.cell y2
  have y3k := KWorld.cell y3
  have y4k := KWorld.cell y4
  have y5k := KWorld.cell y5
  have y6k := KWorld.cell y6
  refine wp_region_keeps (w1) (by kernel_rfl) (by kernel_rfl) (by (repeat (first | with_reducible exact Keeps.refl _ | with_reducible assumption | with_reducible refine Keeps.alloc ?_ _ | with_reducible refine Keeps.drewN ?_ _ | with_reducible refine Keeps.drew ?_ | refine Keeps.setCell ?_ (by dsimp only; omega) _ | with_reducible refine Keeps.trans ?_ (by assumption)))) ?_; (repeat (go_big_quiet_step ((first | (go_at_call 77; refine Calls.keepsK (Hr.out _)))))); refine wpQuiet_nil ?_; rintro wq ⟨⟨_, hkq⟩, rfl⟩; try dsimp only
  go_wp2
  go_ret2
  exact ⟨rfl, by (repeat (first | with_reducible exact Keeps.refl _ | with_reducible assumption | with_reducible refine Keeps.alloc ?_ _ | with_reducible refine Keeps.drewN ?_ _ | with_reducible refine Keeps.drew ?_ | refine Keeps.setCell ?_ (by dsimp only; omega) _ | with_reducible refine Keeps.trans ?_ (by assumption)))⟩

set_option maxRecDepth 100000 in
theorem sfind_bad2 (sb ib : Nat) (r : Rec) (hb1 : 0 ≤ r.bot) (hb2 : r.bot ≤ 255) (n : Int) (a1 : Value) (w : World)
    (c0 : w.cell? ⟨sb, 0, none⟩ = some (.int .i64 n)) (c1 : w.cell? ⟨sb, 1, none⟩ = some a1) (c2 : w.cell? ⟨sb, 2, none⟩ = some (.pointer (some ⟨ib, 0, none⟩)))
    (hg : ∀ W, Keeps w W → Calls Try.prog 76 #[.pointer (some ⟨ib, 0, none⟩), .agg #[.int .u8 r.form, .int .u8 r.top, .int .u8 r.bot, .int .u8 r.lo.tag, .int .u32 r.lo.to, .int .u8 r.hi.tag, .int .u32 r.hi.to]] W fun e w' => e = .returned (.tuple #[.int .u32 0, .bool false]) ∧ Keeps W w')
    (hr : ∀ W, Calls Try.prog 77 #[.agg #[.int .u8 r.form, .int .u8 r.top, .int .u8 r.bot, .int .u8 r.lo.tag, .int .u32 r.lo.to, .int .u8 r.hi.tag, .int .u32 r.hi.to], .int .i64 n] W fun e w' => e = .returned (.bool true) ∧ Keeps W w')
    (hlo : ∀ W, Keeps w W → Calls Try.prog 21 #[.pointer (some ⟨sb, 0, none⟩), .int .u8 r.form, .agg #[.int .u8 r.lo.tag, .int .u32 r.lo.to], .int .i64 (r.bot + 1)] W fun e w' => e = .returned (.bool false) ∧ Keeps W w')
    : Calls Try.prog 42 #[.pointer (some ⟨sb, 0, none⟩), .agg #[.int .u8 r.form, .int .u8 r.top, .int .u8 r.bot, .int .u8 r.lo.tag, .int .u32 r.lo.to, .int .u8 r.hi.tag, .int .u32 r.hi.to]] w fun e w' => e = .returned (.tuple #[.int .u32 0, .int .u8 1]) ∧ Keeps w w' := by
  have hsb : sb < w.heap.size := lt_of_cell c0
  have Hg := Lib.hid hg
  have Hr := Lib.hid hr
  have Hlo := Lib.hid hlo
  clear hg hr hlo
  go_enter Try.func42, Try.ntmps42
  go_wp2_with fail
  go_region_held3 (fun w' => w'.cell? ⟨sb, 2, none⟩ = some (.pointer (some ⟨ib, 0, none⟩)) ∧ (w'.cell? ⟨w.heap.size, 0, none⟩ = some (.int .u8 r.form) ∧ w'.cell? ⟨w.heap.size, 1, none⟩ = some (.int .u8 r.top) ∧ w'.cell? ⟨w.heap.size, 2, none⟩ = some (.int .u8 r.bot) ∧ w'.cell? ⟨w.heap.size, 3, none⟩ = some (.int .u8 r.lo.tag) ∧ w'.cell? ⟨w.heap.size, 4, none⟩ = some (.int .u32 r.lo.to) ∧ w'.cell? ⟨w.heap.size, 5, none⟩ = some (.int .u8 r.hi.tag) ∧ w'.cell? ⟨w.heap.size, 6, none⟩ = some (.int .u32 r.hi.to))) (go_keep) ((first | (go_at_call 76; refine (Hg.out _ (by (repeat (first | with_reducible exact Keeps.refl _ | with_reducible assumption | with_reducible refine Keeps.alloc ?_ _ | with_reducible refine Keeps.drewN ?_ _ | with_reducible refine Keeps.drew ?_ | refine Keeps.setCell ?_ (by dsimp only; omega) _ | with_reducible refine Keeps.trans ?_ (by assumption))))).mono ?_; rintro e w1 ⟨rfl, hb⟩; have hwb : Keeps (w.alloc (.cells #[.int .u8 r.form, .int .u8 r.top, .int .u8 r.bot, .int .u8 r.lo.tag, .int .u32 r.lo.to, .int .u8 r.hi.tag, .int .u32 r.hi.to] 58)) w1 := (by (repeat (first | with_reducible exact Keeps.refl _ | with_reducible assumption | with_reducible refine Keeps.alloc ?_ _ | with_reducible refine Keeps.drewN ?_ _ | with_reducible refine Keeps.drew ?_ | refine Keeps.setCell ?_ (by dsimp only; omega) _ | with_reducible refine Keeps.trans ?_ (by assumption)))); obtain ⟨y0, y1, y2, y3, y4, y5, y6⟩ := box7 hwb; have hk : Keeps w w1 := (((Keeps.refl _).alloc _).trans hwb); have hsz := hwb.size; simp only [World.size_alloc] at hsz; have d0 := hk.cell c0; have d1 := hk.cell c1; have d2 := hk.cell c2)))
  go_wp2_with fail
  have d0k := KWorld.cell d0
  have y0k := KWorld.cell y0
  have y1k := KWorld.cell y1
  have y2k := KWorld.cell y2
  have y3k := KWorld.cell y3
  have y4k := KWorld.cell y4
  have y5k := KWorld.cell y5
  have y6k := KWorld.cell y6
  refine wp_region_keeps (w1) (by kernel_rfl) (by kernel_rfl) (by (repeat (first | with_reducible exact Keeps.refl _ | with_reducible assumption | with_reducible refine Keeps.alloc ?_ _ | with_reducible refine Keeps.drewN ?_ _ | with_reducible refine Keeps.drew ?_ | refine Keeps.setCell ?_ (by dsimp only; omega) _ | with_reducible refine Keeps.trans ?_ (by assumption)))) ?_; (repeat (go_big_quiet_step ((first | (go_at_call 77; refine Calls.keepsK (Hr.out _)) | (go_at_call 21; with_reducible refine Calls.keepsK (Hlo.out _ (hk.trans (KWorld.keep _)))))))); refine wpQuiet_nil ?_; rintro wq ⟨⟨_, hkq⟩, rfl⟩; try dsimp only
  go_wp2
  go_ret2
  exact ⟨rfl, by (repeat (first | with_reducible exact Keeps.refl _ | with_reducible assumption | with_reducible refine Keeps.alloc ?_ _ | with_reducible refine Keeps.drewN ?_ _ | with_reducible refine Keeps.drew ?_ | refine Keeps.setCell ?_ (by dsimp only; omega) _ | with_reducible refine Keeps.trans ?_ (by assumption)))⟩

set_option maxRecDepth 100000 in
theorem sfind_bad3 (sb ib : Nat) (r : Rec) (hb1 : 0 ≤ r.bot) (hb2 : r.bot ≤ 255) (n : Int) (a1 : Value) (w : World)
    (c0 : w.cell? ⟨sb, 0, none⟩ = some (.int .i64 n)) (c1 : w.cell? ⟨sb, 1, none⟩ = some a1) (c2 : w.cell? ⟨sb, 2, none⟩ = some (.pointer (some ⟨ib, 0, none⟩)))
    (hg : ∀ W, Keeps w W → Calls Try.prog 76 #[.pointer (some ⟨ib, 0, none⟩), .agg #[.int .u8 r.form, .int .u8 r.top, .int .u8 r.bot, .int .u8 r.lo.tag, .int .u32 r.lo.to, .int .u8 r.hi.tag, .int .u32 r.hi.to]] W fun e w' => e = .returned (.tuple #[.int .u32 0, .bool false]) ∧ Keeps W w')
    (hr : ∀ W, Calls Try.prog 77 #[.agg #[.int .u8 r.form, .int .u8 r.top, .int .u8 r.bot, .int .u8 r.lo.tag, .int .u32 r.lo.to, .int .u8 r.hi.tag, .int .u32 r.hi.to], .int .i64 n] W fun e w' => e = .returned (.bool true) ∧ Keeps W w')
    (hlo : ∀ W, Keeps w W → Calls Try.prog 21 #[.pointer (some ⟨sb, 0, none⟩), .int .u8 r.form, .agg #[.int .u8 r.lo.tag, .int .u32 r.lo.to], .int .i64 (r.bot + 1)] W fun e w' => e = .returned (.bool true) ∧ Keeps W w')
    (hhi : ∀ W, Keeps w W → Calls Try.prog 21 #[.pointer (some ⟨sb, 0, none⟩), .int .u8 r.form, .agg #[.int .u8 r.hi.tag, .int .u32 r.hi.to], .int .i64 (r.bot + 1)] W fun e w' => e = .returned (.bool false) ∧ Keeps W w')
    : Calls Try.prog 42 #[.pointer (some ⟨sb, 0, none⟩), .agg #[.int .u8 r.form, .int .u8 r.top, .int .u8 r.bot, .int .u8 r.lo.tag, .int .u32 r.lo.to, .int .u8 r.hi.tag, .int .u32 r.hi.to]] w fun e w' => e = .returned (.tuple #[.int .u32 0, .int .u8 1]) ∧ Keeps w w' := by
  have hsb : sb < w.heap.size := lt_of_cell c0
  have Hg := Lib.hid hg
  have Hr := Lib.hid hr
  have Hlo := Lib.hid hlo
  have Hhi := Lib.hid hhi
  clear hg hr hlo hhi
  go_enter Try.func42, Try.ntmps42
  go_wp2_with fail
  go_region_held3 (fun w' => w'.cell? ⟨sb, 2, none⟩ = some (.pointer (some ⟨ib, 0, none⟩)) ∧ (w'.cell? ⟨w.heap.size, 0, none⟩ = some (.int .u8 r.form) ∧ w'.cell? ⟨w.heap.size, 1, none⟩ = some (.int .u8 r.top) ∧ w'.cell? ⟨w.heap.size, 2, none⟩ = some (.int .u8 r.bot) ∧ w'.cell? ⟨w.heap.size, 3, none⟩ = some (.int .u8 r.lo.tag) ∧ w'.cell? ⟨w.heap.size, 4, none⟩ = some (.int .u32 r.lo.to) ∧ w'.cell? ⟨w.heap.size, 5, none⟩ = some (.int .u8 r.hi.tag) ∧ w'.cell? ⟨w.heap.size, 6, none⟩ = some (.int .u32 r.hi.to))) (go_keep) ((first | (go_at_call 76; refine (Hg.out _ (by (repeat (first | with_reducible exact Keeps.refl _ | with_reducible assumption | with_reducible refine Keeps.alloc ?_ _ | with_reducible refine Keeps.drewN ?_ _ | with_reducible refine Keeps.drew ?_ | refine Keeps.setCell ?_ (by dsimp only; omega) _ | with_reducible refine Keeps.trans ?_ (by assumption))))).mono ?_; rintro e w1 ⟨rfl, hb⟩; have hwb : Keeps (w.alloc (.cells #[.int .u8 r.form, .int .u8 r.top, .int .u8 r.bot, .int .u8 r.lo.tag, .int .u32 r.lo.to, .int .u8 r.hi.tag, .int .u32 r.hi.to] 58)) w1 := (by (repeat (first | with_reducible exact Keeps.refl _ | with_reducible assumption | with_reducible refine Keeps.alloc ?_ _ | with_reducible refine Keeps.drewN ?_ _ | with_reducible refine Keeps.drew ?_ | refine Keeps.setCell ?_ (by dsimp only; omega) _ | with_reducible refine Keeps.trans ?_ (by assumption)))); obtain ⟨y0, y1, y2, y3, y4, y5, y6⟩ := box7 hwb; have hk : Keeps w w1 := (((Keeps.refl _).alloc _).trans hwb); have hsz := hwb.size; simp only [World.size_alloc] at hsz; have d0 := hk.cell c0; have d1 := hk.cell c1; have d2 := hk.cell c2)))
  go_wp2_with fail
  have d0k := KWorld.cell d0
  have y0k := KWorld.cell y0
  have y1k := KWorld.cell y1
  have y2k := KWorld.cell y2
  have y3k := KWorld.cell y3
  have y4k := KWorld.cell y4
  have y5k := KWorld.cell y5
  have y6k := KWorld.cell y6
  refine wp_region_keeps (w1) (by kernel_rfl) (by kernel_rfl) (by (repeat (first | with_reducible exact Keeps.refl _ | with_reducible assumption | with_reducible refine Keeps.alloc ?_ _ | with_reducible refine Keeps.drewN ?_ _ | with_reducible refine Keeps.drew ?_ | refine Keeps.setCell ?_ (by dsimp only; omega) _ | with_reducible refine Keeps.trans ?_ (by assumption)))) ?_; (repeat (go_big_quiet_step ((first | (go_at_call 77; refine Calls.keepsK (Hr.out _)) | (go_at_call 21; with_reducible refine Calls.keepsK (Hlo.out _ (hk.trans (KWorld.keep _)))) | (go_at_call 21; with_reducible refine Calls.keepsK (Hhi.out _ (hk.trans (KWorld.keep _)))))))); refine wpQuiet_nil ?_; rintro wq ⟨⟨_, hkq⟩, rfl⟩; try dsimp only
  go_wp2
  go_ret2
  exact ⟨rfl, by (repeat (first | with_reducible exact Keeps.refl _ | with_reducible assumption | with_reducible refine Keeps.alloc ?_ _ | with_reducible refine Keeps.drewN ?_ _ | with_reducible refine Keeps.drew ?_ | refine Keeps.setCell ?_ (by dsimp only; omega) _ | with_reducible refine Keeps.trans ?_ (by assumption)))⟩

set_option maxRecDepth 100000 in
theorem sfind_full (sb ib : Nat) (r : Rec) (hb1 : 0 ≤ r.bot) (hb2 : r.bot ≤ 255) (n : Int) (ab : Nat) (w : World)
    (c0 : w.cell? ⟨sb, 0, none⟩ = some (.int .i64 n)) (c1 : w.cell? ⟨sb, 1, none⟩ = some (.pointer (some ⟨ab, 0, none⟩))) (c2 : w.cell? ⟨sb, 2, none⟩ = some (.pointer (some ⟨ib, 0, none⟩)))
    (hg : ∀ W, Keeps w W → Calls Try.prog 76 #[.pointer (some ⟨ib, 0, none⟩), .agg #[.int .u8 r.form, .int .u8 r.top, .int .u8 r.bot, .int .u8 r.lo.tag, .int .u32 r.lo.to, .int .u8 r.hi.tag, .int .u32 r.hi.to]] W fun e w' => e = .returned (.tuple #[.int .u32 0, .bool false]) ∧ Keeps W w')
    (hr : ∀ W, Calls Try.prog 77 #[.agg #[.int .u8 r.form, .int .u8 r.top, .int .u8 r.bot, .int .u8 r.lo.tag, .int .u32 r.lo.to, .int .u8 r.hi.tag, .int .u32 r.hi.to], .int .i64 n] W fun e w' => e = .returned (.bool true) ∧ Keeps W w')
    (hlo : ∀ W, Keeps w W → Calls Try.prog 21 #[.pointer (some ⟨sb, 0, none⟩), .int .u8 r.form, .agg #[.int .u8 r.lo.tag, .int .u32 r.lo.to], .int .i64 (r.bot + 1)] W fun e w' => e = .returned (.bool true) ∧ Keeps W w')
    (hhi : ∀ W, Keeps w W → Calls Try.prog 21 #[.pointer (some ⟨sb, 0, none⟩), .int .u8 r.form, .agg #[.int .u8 r.hi.tag, .int .u32 r.hi.to], .int .i64 (r.bot + 1)] W fun e w' => e = .returned (.bool true) ∧ Keeps W w')
    (hp : ∀ W, Keeps w W → Calls Try.prog 78 #[.pointer (some ⟨ab, 0, none⟩), .agg #[.int .u8 r.form, .int .u8 r.top, .int .u8 r.bot, .int .u8 r.lo.tag, .int .u32 r.lo.to, .int .u8 r.hi.tag, .int .u32 r.hi.to]] W fun e w' => e = .returned (.tuple #[.int .u32 0, .bool false]) ∧ Keeps W w') :
    Calls Try.prog 42 #[.pointer (some ⟨sb, 0, none⟩), .agg #[.int .u8 r.form, .int .u8 r.top, .int .u8 r.bot, .int .u8 r.lo.tag, .int .u32 r.lo.to, .int .u8 r.hi.tag, .int .u32 r.hi.to]] w fun e w' => e = .returned (.tuple #[.int .u32 0, .int .u8 6]) ∧ Keeps w w' := by
  have Hp := Lib.hid hp
  clear hp
  have hsb : sb < w.heap.size := lt_of_cell c0
  have Hg := Lib.hid hg
  have Hr := Lib.hid hr
  have Hlo := Lib.hid hlo
  have Hhi := Lib.hid hhi
  clear hg hr hlo hhi
  go_enter Try.func42, Try.ntmps42
  go_wp2_with fail
  go_region_held3 (fun w' => w'.cell? ⟨sb, 2, none⟩ = some (.pointer (some ⟨ib, 0, none⟩)) ∧ (w'.cell? ⟨w.heap.size, 0, none⟩ = some (.int .u8 r.form) ∧ w'.cell? ⟨w.heap.size, 1, none⟩ = some (.int .u8 r.top) ∧ w'.cell? ⟨w.heap.size, 2, none⟩ = some (.int .u8 r.bot) ∧ w'.cell? ⟨w.heap.size, 3, none⟩ = some (.int .u8 r.lo.tag) ∧ w'.cell? ⟨w.heap.size, 4, none⟩ = some (.int .u32 r.lo.to) ∧ w'.cell? ⟨w.heap.size, 5, none⟩ = some (.int .u8 r.hi.tag) ∧ w'.cell? ⟨w.heap.size, 6, none⟩ = some (.int .u32 r.hi.to))) (go_keep) ((first | (go_at_call 76; refine (Hg.out _ (by (repeat (first | with_reducible exact Keeps.refl _ | with_reducible assumption | with_reducible refine Keeps.alloc ?_ _ | with_reducible refine Keeps.drewN ?_ _ | with_reducible refine Keeps.drew ?_ | refine Keeps.setCell ?_ (by dsimp only; omega) _ | with_reducible refine Keeps.trans ?_ (by assumption))))).mono ?_; rintro e w1 ⟨rfl, hb⟩; have hwb : Keeps (w.alloc (.cells #[.int .u8 r.form, .int .u8 r.top, .int .u8 r.bot, .int .u8 r.lo.tag, .int .u32 r.lo.to, .int .u8 r.hi.tag, .int .u32 r.hi.to] 58)) w1 := (by (repeat (first | with_reducible exact Keeps.refl _ | with_reducible assumption | with_reducible refine Keeps.alloc ?_ _ | with_reducible refine Keeps.drewN ?_ _ | with_reducible refine Keeps.drew ?_ | refine Keeps.setCell ?_ (by dsimp only; omega) _ | with_reducible refine Keeps.trans ?_ (by assumption)))); obtain ⟨y0, y1, y2, y3, y4, y5, y6⟩ := box7 hwb; have hk : Keeps w w1 := (((Keeps.refl _).alloc _).trans hwb); have hsz := hwb.size; simp only [World.size_alloc] at hsz; have d0 := hk.cell c0; have d1 := hk.cell c1; have d2 := hk.cell c2)))
  go_wp2_with fail
  have d0k := KWorld.cell d0
  have y0k := KWorld.cell y0
  have y1k := KWorld.cell y1
  have y2k := KWorld.cell y2
  have y3k := KWorld.cell y3
  have y4k := KWorld.cell y4
  have y5k := KWorld.cell y5
  have y6k := KWorld.cell y6
  refine wp_region_keeps (w1) (by kernel_rfl) (by kernel_rfl) (by (repeat (first | with_reducible exact Keeps.refl _ | with_reducible assumption | with_reducible refine Keeps.alloc ?_ _ | with_reducible refine Keeps.drewN ?_ _ | with_reducible refine Keeps.drew ?_ | refine Keeps.setCell ?_ (by dsimp only; omega) _ | with_reducible refine Keeps.trans ?_ (by assumption)))) ?_; (repeat (go_big_quiet_step ((first | (go_at_call 77; refine Calls.keepsK (Hr.out _)) | (go_at_call 21; with_reducible refine Calls.keepsK (Hlo.out _ (hk.trans (KWorld.keep _)))) | (go_at_call 21; with_reducible refine Calls.keepsK (Hhi.out _ (hk.trans (KWorld.keep _)))))))); refine wpQuiet_nil ?_; rintro wq ⟨⟨_, hkq⟩, rfl⟩; try dsimp only
  go_wp2_with fail
  have hkw : Keeps w wq := hk.trans hkq
  have d1k : ∀ x : KWorld wq, x.w.cell? ⟨sb, 1, none⟩ = some (.pointer (some ⟨ab, 0, none⟩)) := KWorld.cell (hkq.cell d1)
  have z0k : ∀ x : KWorld wq, x.w.cell? _ = _ := KWorld.cell (hkq.cell y0)
  have z1k : ∀ x : KWorld wq, x.w.cell? _ = _ := KWorld.cell (hkq.cell y1)
  have z2k : ∀ x : KWorld wq, x.w.cell? _ = _ := KWorld.cell (hkq.cell y2)
  have z3k : ∀ x : KWorld wq, x.w.cell? _ = _ := KWorld.cell (hkq.cell y3)
  have z4k : ∀ x : KWorld wq, x.w.cell? _ = _ := KWorld.cell (hkq.cell y4)
  have z5k : ∀ x : KWorld wq, x.w.cell? _ = _ := KWorld.cell (hkq.cell y5)
  have z6k : ∀ x : KWorld wq, x.w.cell? _ = _ := KWorld.cell (hkq.cell y6)
  refine wp_region_keeps (wq) (by kernel_rfl) (by kernel_rfl) (by (repeat (first | with_reducible exact Keeps.refl _ | with_reducible assumption | with_reducible refine Keeps.alloc ?_ _ | with_reducible refine Keeps.drewN ?_ _ | with_reducible refine Keeps.drew ?_ | refine Keeps.setCell ?_ (by dsimp only; omega) _ | with_reducible refine Keeps.trans ?_ (by assumption)))) ?_; (repeat (go_big_quiet_step ((first | (go_at_call 78; refine Calls.keepsK (Hp.out _ (hkw.trans (KWorld.keep _)))))))); refine wpQuiet_nil ?_; rintro wq ⟨⟨_, hkq⟩, rfl⟩; try dsimp only
  go_wp2
  go_ret2
  exact ⟨rfl, hkw.trans (by assumption)⟩

set_option maxRecDepth 100000 in
theorem sfind_put (sb ib : Nat) (r : Rec) (hb1 : 0 ≤ r.bot) (hb2 : r.bot ≤ 255) (n : Int) (ab : Nat) (w : World)
    (c0 : w.cell? ⟨sb, 0, none⟩ = some (.int .i64 n)) (c1 : w.cell? ⟨sb, 1, none⟩ = some (.pointer (some ⟨ab, 0, none⟩))) (c2 : w.cell? ⟨sb, 2, none⟩ = some (.pointer (some ⟨ib, 0, none⟩)))
    (hg : ∀ W, Keeps w W → Calls Try.prog 76 #[.pointer (some ⟨ib, 0, none⟩), .agg #[.int .u8 r.form, .int .u8 r.top, .int .u8 r.bot, .int .u8 r.lo.tag, .int .u32 r.lo.to, .int .u8 r.hi.tag, .int .u32 r.hi.to]] W fun e w' => e = .returned (.tuple #[.int .u32 0, .bool false]) ∧ Keeps W w')
    (hr : ∀ W, Calls Try.prog 77 #[.agg #[.int .u8 r.form, .int .u8 r.top, .int .u8 r.bot, .int .u8 r.lo.tag, .int .u32 r.lo.to, .int .u8 r.hi.tag, .int .u32 r.hi.to], .int .i64 n] W fun e w' => e = .returned (.bool true) ∧ Keeps W w')
    (hlo : ∀ W, Keeps w W → Calls Try.prog 21 #[.pointer (some ⟨sb, 0, none⟩), .int .u8 r.form, .agg #[.int .u8 r.lo.tag, .int .u32 r.lo.to], .int .i64 (r.bot + 1)] W fun e w' => e = .returned (.bool true) ∧ Keeps W w')
    (hhi : ∀ W, Keeps w W → Calls Try.prog 21 #[.pointer (some ⟨sb, 0, none⟩), .int .u8 r.form, .agg #[.int .u8 r.hi.tag, .int .u32 r.hi.to], .int .i64 (r.bot + 1)] W fun e w' => e = .returned (.bool true) ∧ Keeps W w')
    (id : Int) (Fa Fi : Nat → Prop) (ha : ∀ k, Fa k → k < w.heap.size) (hi : ∀ k, Fi k → k < w.heap.size) (has : ¬ Fa sb) (his : ¬ Fi sb) (R1 R2 : World → World → Prop)
    (hp : ∀ W, Keeps w W → Calls Try.prog 78 #[.pointer (some ⟨ab, 0, none⟩), .agg #[.int .u8 r.form, .int .u8 r.top, .int .u8 r.bot, .int .u8 r.lo.tag, .int .u32 r.lo.to, .int .u8 r.hi.tag, .int .u32 r.hi.to]] W fun e w' => e = .returned (.tuple #[.int .u32 id, .bool true]) ∧ Upd Fa W w' ∧ R1 W w')
    (hq : ∀ W W1 W2, Keeps w W → Upd Fa W W1 → R1 W W1 → Keeps W1 W2 → Calls Try.prog 79 #[.pointer (some ⟨ib, 0, none⟩), .agg #[.int .u8 r.form, .int .u8 r.top, .int .u8 r.bot, .int .u8 r.lo.tag, .int .u32 r.lo.to, .int .u8 r.hi.tag, .int .u32 r.hi.to], .int .u32 id] W2 fun e w' => e = .returned (.tuple #[.int .u32 0, .bool false]) ∧ Upd Fi W2 w' ∧ R2 W2 w') :
    Calls Try.prog 42 #[.pointer (some ⟨sb, 0, none⟩), .agg #[.int .u8 r.form, .int .u8 r.top, .int .u8 r.bot, .int .u8 r.lo.tag, .int .u32 r.lo.to, .int .u8 r.hi.tag, .int .u32 r.hi.to]] w fun e w' => e = .returned (.tuple #[.int .u32 id, .int .u8 0]) ∧
      ∃ W W1 W2, Keeps w W ∧ Upd Fa W W1 ∧ R1 W W1 ∧ Keeps W1 W2 ∧ Upd Fi W2 w' ∧ R2 W2 w' := by
  have Hp := Lib.hid hp
  have Hq := Lib.hid hq
  have HA := Lib.hid ha
  have HS := Lib.hid has
  have HI := Lib.hid hi
  have HJ := Lib.hid his
  clear hp hq ha hi has his
  have hsb : sb < w.heap.size := lt_of_cell c0
  have Hg := Lib.hid hg
  have Hr := Lib.hid hr
  have Hlo := Lib.hid hlo
  have Hhi := Lib.hid hhi
  clear hg hr hlo hhi
  go_enter Try.func42, Try.ntmps42
  go_wp2_with fail
  go_region_held3 (fun w' => w'.cell? ⟨sb, 2, none⟩ = some (.pointer (some ⟨ib, 0, none⟩)) ∧ (w'.cell? ⟨w.heap.size, 0, none⟩ = some (.int .u8 r.form) ∧ w'.cell? ⟨w.heap.size, 1, none⟩ = some (.int .u8 r.top) ∧ w'.cell? ⟨w.heap.size, 2, none⟩ = some (.int .u8 r.bot) ∧ w'.cell? ⟨w.heap.size, 3, none⟩ = some (.int .u8 r.lo.tag) ∧ w'.cell? ⟨w.heap.size, 4, none⟩ = some (.int .u32 r.lo.to) ∧ w'.cell? ⟨w.heap.size, 5, none⟩ = some (.int .u8 r.hi.tag) ∧ w'.cell? ⟨w.heap.size, 6, none⟩ = some (.int .u32 r.hi.to))) (go_keep) ((first | (go_at_call 76; refine (Hg.out _ (by (repeat (first | with_reducible exact Keeps.refl _ | with_reducible assumption | with_reducible refine Keeps.alloc ?_ _ | with_reducible refine Keeps.drewN ?_ _ | with_reducible refine Keeps.drew ?_ | refine Keeps.setCell ?_ (by dsimp only; omega) _ | with_reducible refine Keeps.trans ?_ (by assumption))))).mono ?_; rintro e w1 ⟨rfl, hb⟩; have hwb : Keeps (w.alloc (.cells #[.int .u8 r.form, .int .u8 r.top, .int .u8 r.bot, .int .u8 r.lo.tag, .int .u32 r.lo.to, .int .u8 r.hi.tag, .int .u32 r.hi.to] 58)) w1 := (by (repeat (first | with_reducible exact Keeps.refl _ | with_reducible assumption | with_reducible refine Keeps.alloc ?_ _ | with_reducible refine Keeps.drewN ?_ _ | with_reducible refine Keeps.drew ?_ | refine Keeps.setCell ?_ (by dsimp only; omega) _ | with_reducible refine Keeps.trans ?_ (by assumption)))); obtain ⟨y0, y1, y2, y3, y4, y5, y6⟩ := box7 hwb; have hk : Keeps w w1 := (((Keeps.refl _).alloc _).trans hwb); have hsz := hwb.size; simp only [World.size_alloc] at hsz; have d0 := hk.cell c0; have d1 := hk.cell c1; have d2 := hk.cell c2)))
  go_wp2_with fail
  have d0k := KWorld.cell d0
  have y0k := KWorld.cell y0
  have y1k := KWorld.cell y1
  have y2k := KWorld.cell y2
  have y3k := KWorld.cell y3
  have y4k := KWorld.cell y4
  have y5k := KWorld.cell y5
  have y6k := KWorld.cell y6
  refine wp_region_keeps (w1) (by kernel_rfl) (by kernel_rfl) (by (repeat (first | with_reducible exact Keeps.refl _ | with_reducible assumption | with_reducible refine Keeps.alloc ?_ _ | with_reducible refine Keeps.drewN ?_ _ | with_reducible refine Keeps.drew ?_ | refine Keeps.setCell ?_ (by dsimp only; omega) _ | with_reducible refine Keeps.trans ?_ (by assumption)))) ?_; (repeat (go_big_quiet_step ((first | (go_at_call 77; refine Calls.keepsK (Hr.out _)) | (go_at_call 21; with_reducible refine Calls.keepsK (Hlo.out _ (hk.trans (KWorld.keep _)))) | (go_at_call 21; with_reducible refine Calls.keepsK (Hhi.out _ (hk.trans (KWorld.keep _)))))))); refine wpQuiet_nil ?_; rintro wq ⟨⟨_, hkq⟩, rfl⟩; try dsimp only
  go_wp2_with fail
  have hkw : Keeps w wq := hk.trans hkq
  have d1k := hkq.cell d1
  have d2k := hkq.cell d2
  obtain ⟨z0, z1, z2, z3, z4, z5, z6⟩ := hkq.cell7 ⟨y0, y1, y2, y3, y4, y5, y6⟩
  clear d0k y0k y1k y2k y3k y4k y5k y6k hb
  have hbw : w.heap.size < wq.heap.size := by have := hkq.size; omega
  have hsq : sb < wq.heap.size := by have := hkq.size; omega
  have hnb : ¬ Fa w.heap.size := fun h => by have := HA.out _ h; omega
  have hnc : ¬ Fi w.heap.size := fun h => by have := HI.out _ h; omega
  clear hsz
  go_region_held3 (fun w' => w'.cell? ⟨sb, 1, none⟩ = some (.pointer (some ⟨ab, 0, none⟩)) ∧ (w'.cell? ⟨w.heap.size, 0, none⟩ = some (.int .u8 r.form) ∧ w'.cell? ⟨w.heap.size, 1, none⟩ = some (.int .u8 r.top) ∧ w'.cell? ⟨w.heap.size, 2, none⟩ = some (.int .u8 r.bot) ∧ w'.cell? ⟨w.heap.size, 3, none⟩ = some (.int .u8 r.lo.tag) ∧ w'.cell? ⟨w.heap.size, 4, none⟩ = some (.int .u32 r.lo.to) ∧ w'.cell? ⟨w.heap.size, 5, none⟩ = some (.int .u8 r.hi.tag) ∧ w'.cell? ⟨w.heap.size, 6, none⟩ = some (.int .u32 r.hi.to))) (go_keep) ((first | (go_at_call 78; refine (Hp.out _ (by (repeat (first | with_reducible exact Keeps.refl _ | with_reducible assumption | with_reducible refine Keeps.alloc ?_ _ | with_reducible refine Keeps.drewN ?_ _ | with_reducible refine Keeps.drew ?_ | refine Keeps.setCell ?_ (by dsimp only; omega) _ | with_reducible refine Keeps.trans ?_ (by assumption))))).mono ?_; rintro e w2 ⟨rfl, hu, hR1⟩; have e1 := hu.cell (a := ⟨sb, 1, none⟩) HS.out d1k; have e2 := hu.cell (a := ⟨sb, 2, none⟩) HS.out d2k; obtain ⟨x0, x1, x2, x3, x4, x5, x6⟩ := hu.cell7 hnb ⟨z0, z1, z2, z3, z4, z5, z6⟩)))
  go_wp2_with fail
  go_region_held3 (fun w' => w'.cell? ⟨sb, 2, none⟩ = some (.pointer (some ⟨ib, 0, none⟩)) ∧ (w'.cell? ⟨w.heap.size, 0, none⟩ = some (.int .u8 r.form) ∧ w'.cell? ⟨w.heap.size, 1, none⟩ = some (.int .u8 r.top) ∧ w'.cell? ⟨w.heap.size, 2, none⟩ = some (.int .u8 r.bot) ∧ w'.cell? ⟨w.heap.size, 3, none⟩ = some (.int .u8 r.lo.tag) ∧ w'.cell? ⟨w.heap.size, 4, none⟩ = some (.int .u32 r.lo.to) ∧ w'.cell? ⟨w.heap.size, 5, none⟩ = some (.int .u8 r.hi.tag) ∧ w'.cell? ⟨w.heap.size, 6, none⟩ = some (.int .u32 r.hi.to))) (go_keep) ((first | (go_at_call 79; refine (Hq.out _ _ _ hkw.drew hu hR1 (by (repeat (first | with_reducible exact Keeps.refl _ | with_reducible assumption | with_reducible refine Keeps.alloc ?_ _ | with_reducible refine Keeps.drewN ?_ _ | with_reducible refine Keeps.drew ?_ | refine Keeps.setCell ?_ (by dsimp only; omega) _ | with_reducible refine Keeps.trans ?_ (by assumption))))).mono ?_; rintro e w3 ⟨rfl, hu3, hR2⟩; have e3 := hu3.cell (a := ⟨sb, 2, none⟩) HJ.out e2; obtain ⟨v0, v1, v2, v3, v4, v5, v6⟩ := hu3.cell7 hnc ⟨x0, x1, x2, x3, x4, x5, x6⟩)))
  go_wp2
  go_ret2
  exact ⟨rfl, _, _, _, hkw.drew, hu, hR1, (Keeps.refl _).drew, hu3, hR2⟩

end Go.Proofs.Ytimffidpbcflaaa
