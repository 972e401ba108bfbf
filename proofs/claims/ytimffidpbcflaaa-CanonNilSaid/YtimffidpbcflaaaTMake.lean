/-
  The walks of tbdd.Make and ramageref16.Make (printed by wip/mk_make.py).
-/
import Derived.Test.YtimffidpbcflaaaFound
namespace Go.Proofs.Ytimffidpbcflaaa
set_option linter.unusedSimpArgs false
set_option linter.unusedVariables false
set_option maxHeartbeats 600000
open Go.RowKit

theorem eql_edge_same (x y : Edge) (h : x = y) (W : World) : (binOp .eql 25 (.agg #[.int .u8 x.tag, .int .u32 x.to]) (.agg #[.int .u8 y.tag, .int .u32 y.to])).run Try.prog W = .ok (.bool true) W := by rw [run_eql_edge]; simp [h]

theorem eql_edge_other (x y : Edge) (h : x ≠ y) (W : World) : (binOp .eql 25 (.agg #[.int .u8 x.tag, .int .u32 x.to]) (.agg #[.int .u8 y.tag, .int .u32 y.to])).run Try.prog W = .ok (.bool false) W := by rw [run_eql_edge]; simp [h]

set_option maxRecDepth 100000 in
theorem tmake_neg (sb : Nat) (l n : Int) (lo hi : Edge) (w : World) (hn : n ≤ 16)
    (hsb : sb < w.heap.size)
    (hv : ∀ W, Keeps w W → Calls Try.prog 47 #[.pointer (some ⟨sb, 0, none⟩)] W fun e w' => e = .returned (.int .i64 n) ∧ W = w')
    (h0 : l < 0)
    : Calls Try.prog 19 #[.pointer (some ⟨sb, 0, none⟩), .int .i64 l, .agg #[.int .u8 lo.tag, .int .u32 lo.to], .agg #[.int .u8 hi.tag, .int .u32 hi.to]] w fun e w' => e = .returned (.tuple #[.agg #[.int .u8 0, .int .u32 0], .int .u8 3]) ∧ Keeps w w' := by
  have hsb1 : sb < w.heap.size + 1 := by omega
  have hsb2 : sb < w.heap.size + 1 + 1 := by omega
  have HV := Lib.hid hv
  clear hv
  go_enter Try.func19, Try.ntmps19
  go_wp2_with (first | (go_at_call 47; refine (HV.out _ (by (repeat (first | with_reducible exact Keeps.refl _ | with_reducible assumption | with_reducible refine Keeps.alloc ?_ _ | with_reducible refine Keeps.drewN ?_ _ | with_reducible refine Keeps.drew ?_ | refine Keeps.setCell ?_ (by dsimp only; omega) _ | with_reducible refine Keeps.trans ?_ (by assumption))))).mono ?_; rintro e w' ⟨rfl, rfl⟩) | fail)
  all_goals refine bodyPost_ret (v := .tuple #[.agg #[.int .u8 0, .int .u32 0], .int .u8 3]) (by simp [results, Try.results19, go_sem]) rfl ⟨rfl, by (repeat (first | with_reducible exact Keeps.refl _ | with_reducible assumption | with_reducible refine Keeps.alloc ?_ _ | with_reducible refine Keeps.drewN ?_ _ | with_reducible refine Keeps.drew ?_ | refine Keeps.setCell ?_ (by dsimp only; omega) _ | with_reducible refine Keeps.trans ?_ (by assumption)))⟩

set_option maxRecDepth 100000 in
theorem tmake_big (sb : Nat) (l n : Int) (lo hi : Edge) (w : World) (hn : n ≤ 16)
    (hsb : sb < w.heap.size)
    (hv : ∀ W, Keeps w W → Calls Try.prog 47 #[.pointer (some ⟨sb, 0, none⟩)] W fun e w' => e = .returned (.int .i64 n) ∧ W = w')
    (h0 : 0 ≤ l) (h1 : n ≤ l)
    : Calls Try.prog 19 #[.pointer (some ⟨sb, 0, none⟩), .int .i64 l, .agg #[.int .u8 lo.tag, .int .u32 lo.to], .agg #[.int .u8 hi.tag, .int .u32 hi.to]] w fun e w' => e = .returned (.tuple #[.agg #[.int .u8 0, .int .u32 0], .int .u8 3]) ∧ Keeps w w' := by
  have hsb1 : sb < w.heap.size + 1 := by omega
  have hsb2 : sb < w.heap.size + 1 + 1 := by omega
  have HV := Lib.hid hv
  clear hv
  go_enter Try.func19, Try.ntmps19
  go_wp2_with (first | (go_at_call 47; refine (HV.out _ (by (repeat (first | with_reducible exact Keeps.refl _ | with_reducible assumption | with_reducible refine Keeps.alloc ?_ _ | with_reducible refine Keeps.drewN ?_ _ | with_reducible refine Keeps.drew ?_ | refine Keeps.setCell ?_ (by dsimp only; omega) _ | with_reducible refine Keeps.trans ?_ (by assumption))))).mono ?_; rintro e w' ⟨rfl, rfl⟩) | fail)
  all_goals refine bodyPost_ret (v := .tuple #[.agg #[.int .u8 0, .int .u32 0], .int .u8 3]) (by simp [results, Try.results19, go_sem]) rfl ⟨rfl, by (repeat (first | with_reducible exact Keeps.refl _ | with_reducible assumption | with_reducible refine Keeps.alloc ?_ _ | with_reducible refine Keeps.drewN ?_ _ | with_reducible refine Keeps.drew ?_ | refine Keeps.setCell ?_ (by dsimp only; omega) _ | with_reducible refine Keeps.trans ?_ (by assumption)))⟩

set_option maxRecDepth 100000 in
theorem tmake_lo (sb : Nat) (l n : Int) (lo hi : Edge) (w : World) (hn : n ≤ 16)
    (hsb : sb < w.heap.size)
    (hv : ∀ W, Keeps w W → Calls Try.prog 47 #[.pointer (some ⟨sb, 0, none⟩)] W fun e w' => e = .returned (.int .i64 n) ∧ W = w')
    (h0 : 0 ≤ l) (h1 : l < n)
    (hlo : ∀ W, Keeps w W → Calls Try.prog 21 #[.pointer (some ⟨sb, 0, none⟩), .int .u8 5, .agg #[.int .u8 lo.tag, .int .u32 lo.to], .int .i64 (l + 1)] W fun e w' => e = .returned (.bool false) ∧ Keeps W w')
    : Calls Try.prog 19 #[.pointer (some ⟨sb, 0, none⟩), .int .i64 l, .agg #[.int .u8 lo.tag, .int .u32 lo.to], .agg #[.int .u8 hi.tag, .int .u32 hi.to]] w fun e w' => e = .returned (.tuple #[.agg #[.int .u8 0, .int .u32 0], .int .u8 1]) ∧ Keeps w w' := by
  have hsb1 : sb < w.heap.size + 1 := by omega
  have hsb2 : sb < w.heap.size + 1 + 1 := by omega
  have HV := Lib.hid hv
  clear hv
  have HLo := Lib.hid hlo
  clear hlo
  go_enter Try.func19, Try.ntmps19
  go_wp2_with (first | (go_at_call 47; refine (HV.out _ (by (repeat (first | with_reducible exact Keeps.refl _ | with_reducible assumption | with_reducible refine Keeps.alloc ?_ _ | with_reducible refine Keeps.drewN ?_ _ | with_reducible refine Keeps.drew ?_ | refine Keeps.setCell ?_ (by dsimp only; omega) _ | with_reducible refine Keeps.trans ?_ (by assumption))))).mono ?_; rintro e w' ⟨rfl, rfl⟩) | fail)
  (go_at_call 21; refine (HLo.out _ (by (repeat (first | with_reducible exact Keeps.refl _ | with_reducible assumption | with_reducible refine Keeps.alloc ?_ _ | with_reducible refine Keeps.drewN ?_ _ | with_reducible refine Keeps.drew ?_ | refine Keeps.setCell ?_ (by dsimp only; omega) _ | with_reducible refine Keeps.trans ?_ (by assumption))))).mono ?_; rintro e w1 ⟨rfl, hb⟩; have hsz := hb.size; simp only [World.size_alloc] at hsz; have hz0 : w.heap.size < w1.heap.size := (by omega); have hz1 : w.heap.size + 1 < w1.heap.size := (by omega); have hz2 : w.heap.size + 2 < w1.heap.size := (by omega); have y0 := hb.cell (a := ⟨w.heap.size, 0, none⟩) (v := .int .u8 lo.tag) (by simp [go_sem]); have y1 := hb.cell (a := ⟨w.heap.size, 1, none⟩) (v := .int .u32 lo.to) (by simp [go_sem]); have x0 := hb.cell (a := ⟨w.heap.size + 1, 0, none⟩) (v := .int .u8 hi.tag) (by simp [go_sem]); have x1 := hb.cell (a := ⟨w.heap.size + 1, 1, none⟩) (v := .int .u32 hi.to) (by simp [go_sem]); have z0 := hb.cell (a := ⟨w.heap.size + 2, 0, none⟩) (v := .int .u8 0) (by simp [go_sem]); have z1 := hb.cell (a := ⟨w.heap.size + 2, 1, none⟩) (v := .int .u32 0) (by simp [go_sem]); have zf := fun o : Nat => (hb.upd (fun _ => False)).frozen (a := ⟨w.heap.size + 2, o, none⟩) (by simp [go_sem]) (fun h => h) (by simp [go_sem]); have hk : Keeps w w1 := (by (repeat (first | with_reducible exact Keeps.refl _ | with_reducible assumption | with_reducible refine Keeps.alloc ?_ _ | with_reducible refine Keeps.drewN ?_ _ | with_reducible refine Keeps.drew ?_ | refine Keeps.setCell ?_ (by dsimp only; omega) _ | with_reducible refine Keeps.trans ?_ (by assumption)))))
  go_wp2_with fail
  all_goals refine bodyPost_ret (v := .tuple #[.agg #[.int .u8 0, .int .u32 0], .int .u8 1]) (by simp [results, Try.results19, go_sem, hz2, z0, z1]) rfl ⟨rfl, by (repeat (first | with_reducible exact Keeps.refl _ | with_reducible assumption | with_reducible refine Keeps.alloc ?_ _ | with_reducible refine Keeps.drewN ?_ _ | with_reducible refine Keeps.drew ?_ | refine Keeps.setCell ?_ (by dsimp only; omega) _ | with_reducible refine Keeps.trans ?_ (by assumption)))⟩

set_option maxRecDepth 100000 in
theorem tmake_hi (sb : Nat) (l n : Int) (lo hi : Edge) (w : World) (hn : n ≤ 16)
    (hsb : sb < w.heap.size)
    (hv : ∀ W, Keeps w W → Calls Try.prog 47 #[.pointer (some ⟨sb, 0, none⟩)] W fun e w' => e = .returned (.int .i64 n) ∧ W = w')
    (h0 : 0 ≤ l) (h1 : l < n)
    (hlo : ∀ W, Keeps w W → Calls Try.prog 21 #[.pointer (some ⟨sb, 0, none⟩), .int .u8 5, .agg #[.int .u8 lo.tag, .int .u32 lo.to], .int .i64 (l + 1)] W fun e w' => e = .returned (.bool true) ∧ Keeps W w')
    (hhi : ∀ W, Keeps w W → Calls Try.prog 21 #[.pointer (some ⟨sb, 0, none⟩), .int .u8 5, .agg #[.int .u8 hi.tag, .int .u32 hi.to], .int .i64 (l + 1)] W fun e w' => e = .returned (.bool false) ∧ Keeps W w')
    : Calls Try.prog 19 #[.pointer (some ⟨sb, 0, none⟩), .int .i64 l, .agg #[.int .u8 lo.tag, .int .u32 lo.to], .agg #[.int .u8 hi.tag, .int .u32 hi.to]] w fun e w' => e = .returned (.tuple #[.agg #[.int .u8 0, .int .u32 0], .int .u8 1]) ∧ Keeps w w' := by
  have hsb1 : sb < w.heap.size + 1 := by omega
  have hsb2 : sb < w.heap.size + 1 + 1 := by omega
  have HV := Lib.hid hv
  clear hv
  have HLo := Lib.hid hlo
  clear hlo
  have HHi := Lib.hid hhi
  clear hhi
  go_enter Try.func19, Try.ntmps19
  go_wp2_with (first | (go_at_call 47; refine (HV.out _ (by (repeat (first | with_reducible exact Keeps.refl _ | with_reducible assumption | with_reducible refine Keeps.alloc ?_ _ | with_reducible refine Keeps.drewN ?_ _ | with_reducible refine Keeps.drew ?_ | refine Keeps.setCell ?_ (by dsimp only; omega) _ | with_reducible refine Keeps.trans ?_ (by assumption))))).mono ?_; rintro e w' ⟨rfl, rfl⟩) | fail)
  (go_at_call 21; refine (HLo.out _ (by (repeat (first | with_reducible exact Keeps.refl _ | with_reducible assumption | with_reducible refine Keeps.alloc ?_ _ | with_reducible refine Keeps.drewN ?_ _ | with_reducible refine Keeps.drew ?_ | refine Keeps.setCell ?_ (by dsimp only; omega) _ | with_reducible refine Keeps.trans ?_ (by assumption))))).mono ?_; rintro e w1 ⟨rfl, hb⟩; have hsz := hb.size; simp only [World.size_alloc] at hsz; have hz0 : w.heap.size < w1.heap.size := (by omega); have hz1 : w.heap.size + 1 < w1.heap.size := (by omega); have hz2 : w.heap.size + 2 < w1.heap.size := (by omega); have y0 := hb.cell (a := ⟨w.heap.size, 0, none⟩) (v := .int .u8 lo.tag) (by simp [go_sem]); have y1 := hb.cell (a := ⟨w.heap.size, 1, none⟩) (v := .int .u32 lo.to) (by simp [go_sem]); have x0 := hb.cell (a := ⟨w.heap.size + 1, 0, none⟩) (v := .int .u8 hi.tag) (by simp [go_sem]); have x1 := hb.cell (a := ⟨w.heap.size + 1, 1, none⟩) (v := .int .u32 hi.to) (by simp [go_sem]); have z0 := hb.cell (a := ⟨w.heap.size + 2, 0, none⟩) (v := .int .u8 0) (by simp [go_sem]); have z1 := hb.cell (a := ⟨w.heap.size + 2, 1, none⟩) (v := .int .u32 0) (by simp [go_sem]); have zf := fun o : Nat => (hb.upd (fun _ => False)).frozen (a := ⟨w.heap.size + 2, o, none⟩) (by simp [go_sem]) (fun h => h) (by simp [go_sem]); have hk : Keeps w w1 := (by (repeat (first | with_reducible exact Keeps.refl _ | with_reducible assumption | with_reducible refine Keeps.alloc ?_ _ | with_reducible refine Keeps.drewN ?_ _ | with_reducible refine Keeps.drew ?_ | refine Keeps.setCell ?_ (by dsimp only; omega) _ | with_reducible refine Keeps.trans ?_ (by assumption)))))
  go_wp2_with fail
  (go_at_call 21; refine (HHi.out _ (by (repeat (first | with_reducible exact Keeps.refl _ | with_reducible assumption | with_reducible refine Keeps.alloc ?_ _ | with_reducible refine Keeps.drewN ?_ _ | with_reducible refine Keeps.drew ?_ | refine Keeps.setCell ?_ (by dsimp only; omega) _ | with_reducible refine Keeps.trans ?_ (by assumption))))).mono ?_; rintro e w1 ⟨rfl, hb⟩; have hsz := hb.size; have zf := fun o : Nat => (hb.upd (fun _ => False)).frozen (a := ⟨w.heap.size + 2, o, none⟩) (by dsimp only; omega) (fun h => h) (zf o); have y0 := hb.cell y0; have y1 := hb.cell y1; have x0 := hb.cell x0; have x1 := hb.cell x1; have z0 := hb.cell z0; have z1 := hb.cell z1; have hz0 : w.heap.size < w1.heap.size := (by omega); have hz1 : w.heap.size + 1 < w1.heap.size := (by omega); have hz2 : w.heap.size + 2 < w1.heap.size := (by omega); have hk : Keeps w w1 := (by (repeat (first | with_reducible exact Keeps.refl _ | with_reducible assumption | with_reducible refine Keeps.alloc ?_ _ | with_reducible refine Keeps.drewN ?_ _ | with_reducible refine Keeps.drew ?_ | refine Keeps.setCell ?_ (by dsimp only; omega) _ | with_reducible refine Keeps.trans ?_ (by assumption)))))
  go_wp2_with fail
  all_goals refine bodyPost_ret (v := .tuple #[.agg #[.int .u8 0, .int .u32 0], .int .u8 1]) (by simp [results, Try.results19, go_sem, hz2, z0, z1]) rfl ⟨rfl, by (repeat (first | with_reducible exact Keeps.refl _ | with_reducible assumption | with_reducible refine Keeps.alloc ?_ _ | with_reducible refine Keeps.drewN ?_ _ | with_reducible refine Keeps.drew ?_ | refine Keeps.setCell ?_ (by dsimp only; omega) _ | with_reducible refine Keeps.trans ?_ (by assumption)))⟩

set_option maxRecDepth 100000 in
theorem tmake_same (sb : Nat) (l n : Int) (lo hi : Edge) (w : World) (hn : n ≤ 16)
    (hsb : sb < w.heap.size)
    (hv : ∀ W, Keeps w W → Calls Try.prog 47 #[.pointer (some ⟨sb, 0, none⟩)] W fun e w' => e = .returned (.int .i64 n) ∧ W = w')
    (h0 : 0 ≤ l) (h1 : l < n)
    (hs : lo = hi)
    (hlo : ∀ W, Keeps w W → Calls Try.prog 21 #[.pointer (some ⟨sb, 0, none⟩), .int .u8 5, .agg #[.int .u8 lo.tag, .int .u32 lo.to], .int .i64 (l + 1)] W fun e w' => e = .returned (.bool true) ∧ Keeps W w')
    (hhi : ∀ W, Keeps w W → Calls Try.prog 21 #[.pointer (some ⟨sb, 0, none⟩), .int .u8 5, .agg #[.int .u8 hi.tag, .int .u32 hi.to], .int .i64 (l + 1)] W fun e w' => e = .returned (.bool true) ∧ Keeps W w')
    : Calls Try.prog 19 #[.pointer (some ⟨sb, 0, none⟩), .int .i64 l, .agg #[.int .u8 lo.tag, .int .u32 lo.to], .agg #[.int .u8 hi.tag, .int .u32 hi.to]] w fun e w' => e = .returned (.tuple #[.agg #[.int .u8 lo.tag, .int .u32 lo.to], .int .u8 0]) ∧ Keeps w w' := by
  have hsb1 : sb < w.heap.size + 1 := by omega
  have hsb2 : sb < w.heap.size + 1 + 1 := by omega
  have HV := Lib.hid hv
  clear hv
  have HLo := Lib.hid hlo
  clear hlo
  have HHi := Lib.hid hhi
  clear hhi
  have hq := eql_edge_same lo hi hs
  have HS := Lib.hid hs
  clear hs
  go_enter Try.func19, Try.ntmps19
  go_wp2_with (first | (go_at_call 47; refine (HV.out _ (by (repeat (first | with_reducible exact Keeps.refl _ | with_reducible assumption | with_reducible refine Keeps.alloc ?_ _ | with_reducible refine Keeps.drewN ?_ _ | with_reducible refine Keeps.drew ?_ | refine Keeps.setCell ?_ (by dsimp only; omega) _ | with_reducible refine Keeps.trans ?_ (by assumption))))).mono ?_; rintro e w' ⟨rfl, rfl⟩) | fail)
  (go_at_call 21; refine (HLo.out _ (by (repeat (first | with_reducible exact Keeps.refl _ | with_reducible assumption | with_reducible refine Keeps.alloc ?_ _ | with_reducible refine Keeps.drewN ?_ _ | with_reducible refine Keeps.drew ?_ | refine Keeps.setCell ?_ (by dsimp only; omega) _ | with_reducible refine Keeps.trans ?_ (by assumption))))).mono ?_; rintro e w1 ⟨rfl, hb⟩; have hsz := hb.size; simp only [World.size_alloc] at hsz; have hz0 : w.heap.size < w1.heap.size := (by omega); have hz1 : w.heap.size + 1 < w1.heap.size := (by omega); have hz2 : w.heap.size + 2 < w1.heap.size := (by omega); have y0 := hb.cell (a := ⟨w.heap.size, 0, none⟩) (v := .int .u8 lo.tag) (by simp [go_sem]); have y1 := hb.cell (a := ⟨w.heap.size, 1, none⟩) (v := .int .u32 lo.to) (by simp [go_sem]); have x0 := hb.cell (a := ⟨w.heap.size + 1, 0, none⟩) (v := .int .u8 hi.tag) (by simp [go_sem]); have x1 := hb.cell (a := ⟨w.heap.size + 1, 1, none⟩) (v := .int .u32 hi.to) (by simp [go_sem]); have z0 := hb.cell (a := ⟨w.heap.size + 2, 0, none⟩) (v := .int .u8 0) (by simp [go_sem]); have z1 := hb.cell (a := ⟨w.heap.size + 2, 1, none⟩) (v := .int .u32 0) (by simp [go_sem]); have zf := fun o : Nat => (hb.upd (fun _ => False)).frozen (a := ⟨w.heap.size + 2, o, none⟩) (by simp [go_sem]) (fun h => h) (by simp [go_sem]); have hk : Keeps w w1 := (by (repeat (first | with_reducible exact Keeps.refl _ | with_reducible assumption | with_reducible refine Keeps.alloc ?_ _ | with_reducible refine Keeps.drewN ?_ _ | with_reducible refine Keeps.drew ?_ | refine Keeps.setCell ?_ (by dsimp only; omega) _ | with_reducible refine Keeps.trans ?_ (by assumption)))))
  go_wp2_with fail
  (go_at_call 21; refine (HHi.out _ (by (repeat (first | with_reducible exact Keeps.refl _ | with_reducible assumption | with_reducible refine Keeps.alloc ?_ _ | with_reducible refine Keeps.drewN ?_ _ | with_reducible refine Keeps.drew ?_ | refine Keeps.setCell ?_ (by dsimp only; omega) _ | with_reducible refine Keeps.trans ?_ (by assumption))))).mono ?_; rintro e w1 ⟨rfl, hb⟩; have hsz := hb.size; have zf := fun o : Nat => (hb.upd (fun _ => False)).frozen (a := ⟨w.heap.size + 2, o, none⟩) (by dsimp only; omega) (fun h => h) (zf o); have y0 := hb.cell y0; have y1 := hb.cell y1; have x0 := hb.cell x0; have x1 := hb.cell x1; have z0 := hb.cell z0; have z1 := hb.cell z1; have hz0 : w.heap.size < w1.heap.size := (by omega); have hz1 : w.heap.size + 1 < w1.heap.size := (by omega); have hz2 : w.heap.size + 2 < w1.heap.size := (by omega); have hk : Keeps w w1 := (by (repeat (first | with_reducible exact Keeps.refl _ | with_reducible assumption | with_reducible refine Keeps.alloc ?_ _ | with_reducible refine Keeps.drewN ?_ _ | with_reducible refine Keeps.drew ?_ | refine Keeps.setCell ?_ (by dsimp only; omega) _ | with_reducible refine Keeps.trans ?_ (by assumption)))))
  go_wp2_with fail
  all_goals refine bodyPost_ret (v := .tuple #[.agg #[.int .u8 lo.tag, .int .u32 lo.to], .int .u8 0]) (by simp [results, Try.results19, go_sem, hz2, z0, z1]) rfl ⟨rfl, by (repeat (first | with_reducible exact Keeps.refl _ | with_reducible assumption | with_reducible refine Keeps.alloc ?_ _ | with_reducible refine Keeps.drewN ?_ _ | with_reducible refine Keeps.drew ?_ | refine Keeps.setCell ?_ (by dsimp only; omega) _ | with_reducible refine Keeps.trans ?_ (by assumption)))⟩

set_option maxRecDepth 100000 in
theorem tmake_up (sb : Nat) (l n : Int) (la th : Int) (w : World) (hn : n ≤ 16)
    (hsb : sb < w.heap.size)
    (hv : ∀ W, Keeps w W → Calls Try.prog 47 #[.pointer (some ⟨sb, 0, none⟩)] W fun e w' => e = .returned (.int .i64 n) ∧ W = w')
    (h0 : 0 ≤ l) (h1 : l < n)
    (hs : ¬ (⟨l + 1, la⟩ : Edge) = ⟨th, 0⟩)
    (hlo : ∀ W, Keeps w W → Calls Try.prog 21 #[.pointer (some ⟨sb, 0, none⟩), .int .u8 5, .agg #[.int .u8 (l + 1), .int .u32 la], .int .i64 (l + 1)] W fun e w' => e = .returned (.bool true) ∧ Keeps W w')
    (hhi : ∀ W, Keeps w W → Calls Try.prog 21 #[.pointer (some ⟨sb, 0, none⟩), .int .u8 5, .agg #[.int .u8 th, .int .u32 0], .int .i64 (l + 1)] W fun e w' => e = .returned (.bool true) ∧ Keeps W w')
    : Calls Try.prog 19 #[.pointer (some ⟨sb, 0, none⟩), .int .i64 l, .agg #[.int .u8 (l + 1), .int .u32 la], .agg #[.int .u8 th, .int .u32 0]] w fun e w' => e = .returned (.tuple #[.agg #[.int .u8 l, .int .u32 la], .int .u8 0]) ∧ Keeps w w' := by
  have hsb1 : sb < w.heap.size + 1 := by omega
  have hsb2 : sb < w.heap.size + 1 + 1 := by omega
  have HV := Lib.hid hv
  clear hv
  have HLo := Lib.hid hlo
  clear hlo
  have HHi := Lib.hid hhi
  clear hhi
  have hq := eql_edge_other ⟨l + 1, la⟩ ⟨th, 0⟩ hs
  have HS := Lib.hid hs
  clear hs
  go_enter Try.func19, Try.ntmps19
  go_wp2_with (first | (go_at_call 47; refine (HV.out _ (by (repeat (first | with_reducible exact Keeps.refl _ | with_reducible assumption | with_reducible refine Keeps.alloc ?_ _ | with_reducible refine Keeps.drewN ?_ _ | with_reducible refine Keeps.drew ?_ | refine Keeps.setCell ?_ (by dsimp only; omega) _ | with_reducible refine Keeps.trans ?_ (by assumption))))).mono ?_; rintro e w' ⟨rfl, rfl⟩) | fail)
  (go_at_call 21; refine (HLo.out _ (by (repeat (first | with_reducible exact Keeps.refl _ | with_reducible assumption | with_reducible refine Keeps.alloc ?_ _ | with_reducible refine Keeps.drewN ?_ _ | with_reducible refine Keeps.drew ?_ | refine Keeps.setCell ?_ (by dsimp only; omega) _ | with_reducible refine Keeps.trans ?_ (by assumption))))).mono ?_; rintro e w1 ⟨rfl, hb⟩; have hsz := hb.size; simp only [World.size_alloc] at hsz; have hz0 : w.heap.size < w1.heap.size := (by omega); have hz1 : w.heap.size + 1 < w1.heap.size := (by omega); have hz2 : w.heap.size + 2 < w1.heap.size := (by omega); have y0 := hb.cell (a := ⟨w.heap.size, 0, none⟩) (v := .int .u8 (l + 1)) (by simp [go_sem]); have y1 := hb.cell (a := ⟨w.heap.size, 1, none⟩) (v := .int .u32 la) (by simp [go_sem]); have x0 := hb.cell (a := ⟨w.heap.size + 1, 0, none⟩) (v := .int .u8 th) (by simp [go_sem]); have x1 := hb.cell (a := ⟨w.heap.size + 1, 1, none⟩) (v := .int .u32 0) (by simp [go_sem]); have z0 := hb.cell (a := ⟨w.heap.size + 2, 0, none⟩) (v := .int .u8 0) (by simp [go_sem]); have z1 := hb.cell (a := ⟨w.heap.size + 2, 1, none⟩) (v := .int .u32 0) (by simp [go_sem]); have zf := fun o : Nat => (hb.upd (fun _ => False)).frozen (a := ⟨w.heap.size + 2, o, none⟩) (by simp [go_sem]) (fun h => h) (by simp [go_sem]); have hk : Keeps w w1 := (by (repeat (first | with_reducible exact Keeps.refl _ | with_reducible assumption | with_reducible refine Keeps.alloc ?_ _ | with_reducible refine Keeps.drewN ?_ _ | with_reducible refine Keeps.drew ?_ | refine Keeps.setCell ?_ (by dsimp only; omega) _ | with_reducible refine Keeps.trans ?_ (by assumption)))))
  go_wp2_with fail
  (go_at_call 21; refine (HHi.out _ (by (repeat (first | with_reducible exact Keeps.refl _ | with_reducible assumption | with_reducible refine Keeps.alloc ?_ _ | with_reducible refine Keeps.drewN ?_ _ | with_reducible refine Keeps.drew ?_ | refine Keeps.setCell ?_ (by dsimp only; omega) _ | with_reducible refine Keeps.trans ?_ (by assumption))))).mono ?_; rintro e w1 ⟨rfl, hb⟩; have hsz := hb.size; have zf := fun o : Nat => (hb.upd (fun _ => False)).frozen (a := ⟨w.heap.size + 2, o, none⟩) (by dsimp only; omega) (fun h => h) (zf o); have y0 := hb.cell y0; have y1 := hb.cell y1; have x0 := hb.cell x0; have x1 := hb.cell x1; have z0 := hb.cell z0; have z1 := hb.cell z1; have hz0 : w.heap.size < w1.heap.size := (by omega); have hz1 : w.heap.size + 1 < w1.heap.size := (by omega); have hz2 : w.heap.size + 2 < w1.heap.size := (by omega); have hk : Keeps w w1 := (by (repeat (first | with_reducible exact Keeps.refl _ | with_reducible assumption | with_reducible refine Keeps.alloc ?_ _ | with_reducible refine Keeps.drewN ?_ _ | with_reducible refine Keeps.drew ?_ | refine Keeps.setCell ?_ (by dsimp only; omega) _ | with_reducible refine Keeps.trans ?_ (by assumption)))))
  go_wp2_with fail
  all_goals refine bodyPost_ret (v := .tuple #[.agg #[.int .u8 l, .int .u32 la], .int .u8 0]) (by simp [results, Try.results19, go_sem, hz2, z0, z1]) rfl ⟨rfl, by (repeat (first | with_reducible exact Keeps.refl _ | with_reducible assumption | with_reducible refine Keeps.alloc ?_ _ | with_reducible refine Keeps.drewN ?_ _ | with_reducible refine Keeps.drew ?_ | refine Keeps.setCell ?_ (by dsimp only; omega) _ | with_reducible refine Keeps.trans ?_ (by assumption)))⟩

end Go.Proofs.Ytimffidpbcflaaa
