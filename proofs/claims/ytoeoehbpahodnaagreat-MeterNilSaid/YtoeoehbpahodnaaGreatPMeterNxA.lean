/-
  Chapter 21 where there is no store; the chapter's example.
-/
import Derived.Test.YtoeoehbpahodnaaGreatPMeterS
import Derived.Test.YtoeoehbpahodnaaGreatPNilBasexA
import Derived.Test.YtoeoehbpahodnaaGreatPSetFxA
namespace Go.Proofs.YtoeoehbpahodnaaGreat
set_option linter.unusedSimpArgs false
set_option linter.unusedVariables false
set_option maxHeartbeats 600000
open Go.RowKit

theorem nil_vars (w : World) : Calls Tryz.prog 93 #[.pointer none] w fun e w' => e = .returned (.int .i64 0) ∧ w = w' := by
  go_enter Tryz.func93, Tryz.ntmps93
  go_wp2
  go_ret
  exact ⟨rfl, rfl⟩

theorem nil_mmay (f : Int) (v : Edge) (w : World) : Calls Tryz.prog 97 #[.pointer none, .int .u8 f, .agg #[.int .u8 v.tag, .int .u32 v.to]] w fun e w' => e = .returned (.int .u8 2) ∧ Keeps w w' := by
  have HS := Lib.hid (fun (W : World) => nil_size f 0 v W)
  go_enter Tryz.func97, Tryz.ntmps97
  go_wp2_with (first | (go_at_call 65; refine (HS.out _).mono ?_; rintro e w1 ⟨rfl, hk1⟩) | fail)
  go_ret
  exact ⟨rfl, by (exact kp)⟩

theorem nil_weigh (f : Int) (v : Edge) (a b : Option Addr) (l1 c1 l2 c2 : Nat) (w : World) : Calls Tryz.prog 28 #[.pointer none, .int .u8 f, .agg #[.int .u8 v.tag, .int .u32 v.to], .slice a l1 c1, .slice b l2 c2] w fun e w' => e = .returned (.tuple #[.slice none 0 0, .int .u8 2]) ∧ Keeps w w' := by
  have HM := Lib.hid (fun (W : World) => nil_mmay f v W)
  go_enter Tryz.func28, Tryz.ntmps28
  go_wp2_with (first | (go_at_call 97; refine (HM.out _).mono ?_; rintro e w1 ⟨rfl, hk1⟩) | fail)
  go_ret2
  exact ⟨rfl, by (exact kp)⟩

theorem same0_calls (n : Int) (w : World) : Calls Tryz.prog 123 #[.int .u64 n, .int .i64 0] w fun e w' => (∃ a, e = .returned (.slice a 0 0)) ∧ Keeps w w' := by
  obtain ⟨j0, hj, jz0, jz1, jz2⟩ := info_parts info_u64
  go_enter Tryz.func123, Tryz.ntmps123
  go_wp2_with (first
    | (at_make; refine wpList_make_full _ rfl _ _ 23 rfl w.heap.size 84 j0 (.int .u64 0) 1 Tryz.underlying23 hj jz0 jz1 .i64 .i64 (0 : Int) (0 : Int) 0 rfl rfl rfl rfl (by omega) (by unfold maxLen; omega) (by simp) ?_; intro w1 hown1 hg1)
    | fail)
  have hkk : Keeps w w1 := ⟨hg1.os, hg1.tape, hg1.output, hg1.size, fun i hi => hg1.block i hi (by simp)⟩
  clear hown1 hg1
  go_wp2_with fail
  go_loopg [6, 11] 0 (fun gk s6 s11 wr => s11 = .int .i64 0 ∧ Keeps w wr)
  case atStart => exact ⟨rfl, hkk⟩
  case round =>
    obtain ⟨rfl, hk⟩ := hrel
    go_wp2_with fail
    go_ret
    exact ⟨⟨_, rfl⟩, hk⟩

theorem nil_count (f : Int) (v : Edge) (w : World) : Calls Tryz.prog 48 #[.pointer none, .int .u8 f, .agg #[.int .u8 v.tag, .int .u32 v.to]] w fun e w' => e = .returned (.tuple #[.slice none 0 0, .int .u8 2]) ∧ Keeps w w' := by
  go_enter Tryz.func48, Tryz.ntmps48
  go_wp2_with (first | (go_at_call 93; refine (nil_vars _).mono ?_; rintro e w1 ⟨rfl, rfl⟩) | fail)
  refine (same0_calls 1 _).mono ?_
  rintro e w2 ⟨⟨a, rfl⟩, hk2⟩
  have c0 := hk2.cell (a := ⟨w.heap.size, 0, none⟩) (v := .int .u8 v.tag) (by simp [go_sem])
  have c1 := hk2.cell (a := ⟨w.heap.size, 1, none⟩) (v := .int .u32 v.to) (by simp [go_sem])
  have s2 := hk2.size
  simp only [World.size_alloc] at s2
  have hwl : w.heap.size < w2.heap.size := by omega
  go_wp2_with fail
  refine (nil_weigh f v a a 0 0 0 0 _).mono ?_
  rintro e w3 ⟨rfl, hk3⟩
  go_wp2_with fail
  go_ret2
  exact ⟨rfl, by (exact kp)⟩

set_option maxRecDepth 100000 in
theorem nil_ones (f : Int) (v : Edge) (w : World) : Calls Tryz.prog 49 #[.pointer none, .int .u8 f, .agg #[.int .u8 v.tag, .int .u32 v.to]] w fun e w' => e = .returned (.tuple #[.slice none 0 0, .int .u8 2]) ∧ Keeps w w' := by
  have v0 : (w.alloc (.cells #[.int .u8 v.tag, .int .u32 v.to] 43)).cell? ⟨w.heap.size, 0, none⟩ = some (.int .u8 v.tag) := by simp [go_sem]
  have v1 : (w.alloc (.cells #[.int .u8 v.tag, .int .u32 v.to] 43)).cell? ⟨w.heap.size, 1, none⟩ = some (.int .u32 v.to) := by simp [go_sem]
  go_enter Tryz.func49, Tryz.ntmps49
  go_wp2_with fail
  obtain ⟨W1, hW1⟩ : ∃ W1, W1 = w.alloc (.cells #[.int .u8 v.tag, .int .u32 v.to] 43) := ⟨_, rfl⟩
  have kW1 : Keeps w W1 := by rw [hW1]; exact (Keeps.refl _).alloc _
  rw [← hW1] at v0 v1 ⊢
  clear hW1
  go_cut [8, 9] (fun s8 s9 wx => s8 = .slice none 0 0 ∧ s9 = .int .u8 2 ∧ Keeps W1 wx)
  case first =>
    go_region_held3 (fun w' => w'.cell? ⟨w.heap.size, 0, none⟩ = some (.int .u8 v.tag) ∧ w'.cell? ⟨w.heap.size, 1, none⟩ = some (.int .u32 v.to)) (go_keep) ((first
      | (go_at_call 93; refine (nil_vars _).mono ?_; rintro e' w3 ⟨rfl, rfl⟩)
      | (go_at_call 123; refine (same0_calls _ _).mono ?_; rintro e' w4 ⟨⟨a4, rfl⟩, hk4⟩; have v0 := hk4.cell v0; have v1 := hk4.cell v1)
      | (go_at_call 28; refine (nil_weigh f v _ _ 0 0 0 0 _).mono ?_; rintro e' w5 ⟨rfl, hk5⟩; have v0 := hk5.cell v0; have v1 := hk5.cell v1)))
    all_goals (try go_wp2_with fail)
    all_goals go_meet
    all_goals exact ⟨rfl, rfl, by (exact kp)⟩
  case rest =>
    obtain ⟨rfl, rfl, hkc⟩ := hcut
    go_wp2_with fail
    go_ret2
    exact ⟨rfl, by (exact kp)⟩

theorem nil_profile (f : Int) (v : Edge) (w : World) : Calls Tryz.prog 50 #[.pointer none, .int .u8 f, .agg #[.int .u8 v.tag, .int .u32 v.to]] w fun e w' => e = .returned (.tuple #[.slice none 0 0, .int .u8 2]) ∧ Keeps w w' := by
  have HM := Lib.hid (fun (W : World) => nil_mmay f v W)
  go_enter Tryz.func50, Tryz.ntmps50
  go_wp2_with (first | (go_at_call 97; refine (HM.out _).mono ?_; rintro e w1 ⟨rfl, hk1⟩) | fail)
  go_ret2
  exact ⟨rfl, by (exact kp)⟩

theorem nil_depth (f : Int) (v : Edge) (w : World) : Calls Tryz.prog 51 #[.pointer none, .int .u8 f, .agg #[.int .u8 v.tag, .int .u32 v.to]] w fun e w' => e = .returned (.tuple #[.int .i64 0, .int .u8 2]) ∧ Keeps w w' := by
  have HM := Lib.hid (fun (W : World) => nil_mmay f v W)
  go_enter Tryz.func51, Tryz.ntmps51
  go_wp2_with (first | (go_at_call 97; refine (HM.out _).mono ?_; rintro e w1 ⟨rfl, hk1⟩) | fail)
  go_ret2
  exact ⟨rfl, by (exact kp)⟩

theorem nil_ways (f : Int) (v : Edge) (w : World) : Calls Tryz.prog 52 #[.pointer none, .int .u8 f, .agg #[.int .u8 v.tag, .int .u32 v.to]] w fun e w' => e = .returned (.tuple #[.int .i64 0, .int .u8 2]) ∧ Keeps w w' := by
  have HM := Lib.hid (fun (W : World) => nil_mmay f v W)
  go_enter Tryz.func52, Tryz.ntmps52
  go_wp2_with (first | (go_at_call 97; refine (HM.out _).mono ?_; rintro e w1 ⟨rfl, hk1⟩) | fail)
  go_ret2
  exact ⟨rfl, by (exact kp)⟩

end Go.Proofs.YtoeoehbpahodnaaGreat
