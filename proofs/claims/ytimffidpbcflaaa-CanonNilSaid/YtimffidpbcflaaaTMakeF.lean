/-
  The walks of tbdd.Make and ramageref16.Make (printed by wip/mk_make.py).
-/
import Derived.Test.YtimffidpbcflaaaTMakeR
namespace Go.Proofs.Ytimffidpbcflaaa
set_option linter.unusedSimpArgs false
set_option linter.unusedVariables false
set_option maxHeartbeats 600000
open Go.RowKit

set_option maxRecDepth 100000 in
theorem tmake_foundA {F : Nat → Prop} (R : World → World → Prop) (sb : Nat) (l n a b er : Int) (lo hi : Edge) (w : World) (hn : n ≤ 16)
    (hsb : sb < w.heap.size)
    (hv : ∀ W, Keeps w W → Calls Try.prog 47 #[.pointer (some ⟨sb, 0, none⟩)] W fun e w' => e = .returned (.int .i64 n) ∧ W = w')
    (h0 : 0 ≤ l) (h1 : l < n) (hs : ¬ lo = hi) (hc : ¬ hi.to = 0) (hg1 : 0 ≤ lo.tag) (hg2 : lo.tag ≤ 255) (hlt : ∀ k, F k → k < w.heap.size)
    (hlo : ∀ W, Keeps w W → Calls Try.prog 21 #[.pointer (some ⟨sb, 0, none⟩), .int .u8 5, .agg #[.int .u8 lo.tag, .int .u32 lo.to], .int .i64 (l + 1)] W fun e w' => e = .returned (.bool true) ∧ Keeps W w')
    (hhi : ∀ W, Keeps w W → Calls Try.prog 21 #[.pointer (some ⟨sb, 0, none⟩), .int .u8 5, .agg #[.int .u8 hi.tag, .int .u32 hi.to], .int .i64 (l + 1)] W fun e w' => e = .returned (.bool true) ∧ Keeps W w')
    (hf : ∀ W, Keeps w W → Calls Try.prog 61 #[.pointer (some ⟨sb, 0, none⟩), .agg #[.int .u8 5, .int .u8 l, .int .u8 l, .int .u8 lo.tag, .int .u32 lo.to, .int .u8 hi.tag, .int .u32 hi.to]] W fun e w' => e = .returned (.tuple #[.agg #[.int .u8 a, .int .u32 b], .int .u8 er]) ∧ Upd F W w' ∧ R W w')
    : Calls Try.prog 19 #[.pointer (some ⟨sb, 0, none⟩), .int .i64 l, .agg #[.int .u8 lo.tag, .int .u32 lo.to], .agg #[.int .u8 hi.tag, .int .u32 hi.to]] w fun e w' => e = .returned (.tuple #[.agg #[.int .u8 a, .int .u32 b], .int .u8 er]) ∧
      ∃ W W1, Keeps w W ∧ Upd F W W1 ∧ R W W1 ∧ Upd (fun k => w.heap.size ≤ k ∧ k < W.heap.size) W1 w' := by
  have hsb1 : sb < w.heap.size + 1 := by omega
  have hsb2 : sb < w.heap.size + 1 + 1 := by omega
  have n2 : ¬ F (w.heap.size + 2) := fun h => by have := hlt _ h; omega
  have HV := Lib.hid hv
  clear hv
  have HLo := Lib.hid hlo
  have HHi := Lib.hid hhi
  have HF := Lib.hid hf
  have hq := eql_edge_other lo hi hs
  have HS := Lib.hid hs
  clear hs hf hhi hlo hlt
  go_enter Try.func19, Try.ntmps19
  go_wp2_with (first | (go_at_call 47; refine (HV.out _ (by (repeat (first | with_reducible exact Keeps.refl _ | with_reducible assumption | with_reducible refine Keeps.alloc ?_ _ | with_reducible refine Keeps.drewN ?_ _ | with_reducible refine Keeps.drew ?_ | refine Keeps.setCell ?_ (by dsimp only; omega) _ | with_reducible refine Keeps.trans ?_ (by assumption))))).mono ?_; rintro e w' ⟨rfl, rfl⟩) | fail)
  (go_at_call 21; refine (HLo.out _ (by (repeat (first | with_reducible exact Keeps.refl _ | with_reducible assumption | with_reducible refine Keeps.alloc ?_ _ | with_reducible refine Keeps.drewN ?_ _ | with_reducible refine Keeps.drew ?_ | refine Keeps.setCell ?_ (by dsimp only; omega) _ | with_reducible refine Keeps.trans ?_ (by assumption))))).mono ?_; rintro e w1 ⟨rfl, hb⟩; have hsz := hb.size; simp only [World.size_alloc] at hsz; have hz0 : w.heap.size < w1.heap.size := (by omega); have hz1 : w.heap.size + 1 < w1.heap.size := (by omega); have hz2 : w.heap.size + 2 < w1.heap.size := (by omega); have y0 := hb.cell (a := ⟨w.heap.size, 0, none⟩) (v := .int .u8 lo.tag) (by simp [go_sem]); have y1 := hb.cell (a := ⟨w.heap.size, 1, none⟩) (v := .int .u32 lo.to) (by simp [go_sem]); have x0 := hb.cell (a := ⟨w.heap.size + 1, 0, none⟩) (v := .int .u8 hi.tag) (by simp [go_sem]); have x1 := hb.cell (a := ⟨w.heap.size + 1, 1, none⟩) (v := .int .u32 hi.to) (by simp [go_sem]); have z0 := hb.cell (a := ⟨w.heap.size + 2, 0, none⟩) (v := .int .u8 0) (by simp [go_sem]); have z1 := hb.cell (a := ⟨w.heap.size + 2, 1, none⟩) (v := .int .u32 0) (by simp [go_sem]); have zf := fun o : Nat => (hb.upd (fun _ => False)).frozen (a := ⟨w.heap.size + 2, o, none⟩) (by simp [go_sem]) (fun h => h) (by simp [go_sem]); have hk : Keeps w w1 := (by (repeat (first | with_reducible exact Keeps.refl _ | with_reducible assumption | with_reducible refine Keeps.alloc ?_ _ | with_reducible refine Keeps.drewN ?_ _ | with_reducible refine Keeps.drew ?_ | refine Keeps.setCell ?_ (by dsimp only; omega) _ | with_reducible refine Keeps.trans ?_ (by assumption)))))
  go_wp2_with fail
  (go_at_call 21; refine (HHi.out _ (by (repeat (first | with_reducible exact Keeps.refl _ | with_reducible assumption | with_reducible refine Keeps.alloc ?_ _ | with_reducible refine Keeps.drewN ?_ _ | with_reducible refine Keeps.drew ?_ | refine Keeps.setCell ?_ (by dsimp only; omega) _ | with_reducible refine Keeps.trans ?_ (by assumption))))).mono ?_; rintro e w1 ⟨rfl, hb⟩; have hsz := hb.size; have zf := fun o : Nat => (hb.upd (fun _ => False)).frozen (a := ⟨w.heap.size + 2, o, none⟩) (by dsimp only; omega) (fun h => h) (zf o); have y0 := hb.cell y0; have y1 := hb.cell y1; have x0 := hb.cell x0; have x1 := hb.cell x1; have z0 := hb.cell z0; have z1 := hb.cell z1; have hz0 : w.heap.size < w1.heap.size := (by omega); have hz1 : w.heap.size + 1 < w1.heap.size := (by omega); have hz2 : w.heap.size + 2 < w1.heap.size := (by omega); have hk : Keeps w w1 := (by (repeat (first | with_reducible exact Keeps.refl _ | with_reducible assumption | with_reducible refine Keeps.alloc ?_ _ | with_reducible refine Keeps.drewN ?_ _ | with_reducible refine Keeps.drew ?_ | refine Keeps.setCell ?_ (by dsimp only; omega) _ | with_reducible refine Keeps.trans ?_ (by assumption)))))
  go_wp2_with (first | (go_at_call 61; refine (HF.out _ (by (repeat (first | with_reducible exact Keeps.refl _ | with_reducible assumption | with_reducible refine Keeps.alloc ?_ _ | with_reducible refine Keeps.drewN ?_ _ | with_reducible refine Keeps.drew ?_ | refine Keeps.setCell ?_ (by dsimp only; omega) _ | with_reducible refine Keeps.trans ?_ (by assumption))))).mono ?_; rintro e w2 ⟨rfl, hu, hR⟩; have hsz2 := hu.size; have hv2 : w.heap.size + 2 < w2.heap.size := (by omega); have v0 := hu.cell (a := ⟨w.heap.size + 2, 0, none⟩) n2 z0; have v1 := hu.cell (a := ⟨w.heap.size + 2, 1, none⟩) n2 z1; have vf := fun o : Nat => hu.frozen (a := ⟨w.heap.size + 2, o, none⟩) hz2 n2 (zf o)) | fail)
  refine bodyPost_ret (v := .tuple #[.agg #[.int .u8 a, .int .u32 b], .int .u8 er]) (by simp [results, Try.results19, go_sem, hv2, v0, v1]) rfl ⟨rfl, w1, w2, hk, hu, hR, ?_⟩
  (repeat (first | with_reducible exact Upd.refl _ _ | refine Upd.setCell ?_ (Or.inl (by dsimp only; omega)) _ | with_reducible refine Upd.drewN ?_ _ | with_reducible refine Upd.drew ?_ | with_reducible refine Upd.alloc ?_ _))

set_option maxRecDepth 100000 in
theorem tmake_foundB {F : Nat → Prop} (R : World → World → Prop) (sb : Nat) (l n a b er : Int) (lo : Edge) (th : Int) (w : World) (hn : n ≤ 16)
    (hsb : sb < w.heap.size)
    (hv : ∀ W, Keeps w W → Calls Try.prog 47 #[.pointer (some ⟨sb, 0, none⟩)] W fun e w' => e = .returned (.int .i64 n) ∧ W = w')
    (h0 : 0 ≤ l) (h1 : l < n) (hs : ¬ lo = (⟨th, 0⟩ : Edge)) (hc : ¬ lo.tag = l + 1) (hg1 : 0 ≤ lo.tag) (hg2 : lo.tag ≤ 255) (hlt : ∀ k, F k → k < w.heap.size)
    (hlo : ∀ W, Keeps w W → Calls Try.prog 21 #[.pointer (some ⟨sb, 0, none⟩), .int .u8 5, .agg #[.int .u8 lo.tag, .int .u32 lo.to], .int .i64 (l + 1)] W fun e w' => e = .returned (.bool true) ∧ Keeps W w')
    (hhi : ∀ W, Keeps w W → Calls Try.prog 21 #[.pointer (some ⟨sb, 0, none⟩), .int .u8 5, .agg #[.int .u8 th, .int .u32 0], .int .i64 (l + 1)] W fun e w' => e = .returned (.bool true) ∧ Keeps W w')
    (hf : ∀ W, Keeps w W → Calls Try.prog 61 #[.pointer (some ⟨sb, 0, none⟩), .agg #[.int .u8 5, .int .u8 l, .int .u8 l, .int .u8 lo.tag, .int .u32 lo.to, .int .u8 th, .int .u32 0]] W fun e w' => e = .returned (.tuple #[.agg #[.int .u8 a, .int .u32 b], .int .u8 er]) ∧ Upd F W w' ∧ R W w')
    : Calls Try.prog 19 #[.pointer (some ⟨sb, 0, none⟩), .int .i64 l, .agg #[.int .u8 lo.tag, .int .u32 lo.to], .agg #[.int .u8 th, .int .u32 0]] w fun e w' => e = .returned (.tuple #[.agg #[.int .u8 a, .int .u32 b], .int .u8 er]) ∧
      ∃ W W1, Keeps w W ∧ Upd F W W1 ∧ R W W1 ∧ Upd (fun k => w.heap.size ≤ k ∧ k < W.heap.size) W1 w' := by
  have hsb1 : sb < w.heap.size + 1 := by omega
  have hsb2 : sb < w.heap.size + 1 + 1 := by omega
  have n2 : ¬ F (w.heap.size + 2) := fun h => by have := hlt _ h; omega
  have HV := Lib.hid hv
  clear hv
  have HLo := Lib.hid hlo
  have HHi := Lib.hid hhi
  have HF := Lib.hid hf
  have hq := eql_edge_other lo ⟨th, 0⟩ hs
  have HS := Lib.hid hs
  clear hs hf hhi hlo hlt
  go_enter Try.func19, Try.ntmps19
  go_wp2_with (first | (go_at_call 47; refine (HV.out _ (by (repeat (first | with_reducible exact Keeps.refl _ | with_reducible assumption | with_reducible refine Keeps.alloc ?_ _ | with_reducible refine Keeps.drewN ?_ _ | with_reducible refine Keeps.drew ?_ | refine Keeps.setCell ?_ (by dsimp only; omega) _ | with_reducible refine Keeps.trans ?_ (by assumption))))).mono ?_; rintro e w' ⟨rfl, rfl⟩) | fail)
  (go_at_call 21; refine (HLo.out _ (by (repeat (first | with_reducible exact Keeps.refl _ | with_reducible assumption | with_reducible refine Keeps.alloc ?_ _ | with_reducible refine Keeps.drewN ?_ _ | with_reducible refine Keeps.drew ?_ | refine Keeps.setCell ?_ (by dsimp only; omega) _ | with_reducible refine Keeps.trans ?_ (by assumption))))).mono ?_; rintro e w1 ⟨rfl, hb⟩; have hsz := hb.size; simp only [World.size_alloc] at hsz; have hz0 : w.heap.size < w1.heap.size := (by omega); have hz1 : w.heap.size + 1 < w1.heap.size := (by omega); have hz2 : w.heap.size + 2 < w1.heap.size := (by omega); have y0 := hb.cell (a := ⟨w.heap.size, 0, none⟩) (v := .int .u8 lo.tag) (by simp [go_sem]); have y1 := hb.cell (a := ⟨w.heap.size, 1, none⟩) (v := .int .u32 lo.to) (by simp [go_sem]); have x0 := hb.cell (a := ⟨w.heap.size + 1, 0, none⟩) (v := .int .u8 th) (by simp [go_sem]); have x1 := hb.cell (a := ⟨w.heap.size + 1, 1, none⟩) (v := .int .u32 0) (by simp [go_sem]); have z0 := hb.cell (a := ⟨w.heap.size + 2, 0, none⟩) (v := .int .u8 0) (by simp [go_sem]); have z1 := hb.cell (a := ⟨w.heap.size + 2, 1, none⟩) (v := .int .u32 0) (by simp [go_sem]); have zf := fun o : Nat => (hb.upd (fun _ => False)).frozen (a := ⟨w.heap.size + 2, o, none⟩) (by simp [go_sem]) (fun h => h) (by simp [go_sem]); have hk : Keeps w w1 := (by (repeat (first | with_reducible exact Keeps.refl _ | with_reducible assumption | with_reducible refine Keeps.alloc ?_ _ | with_reducible refine Keeps.drewN ?_ _ | with_reducible refine Keeps.drew ?_ | refine Keeps.setCell ?_ (by dsimp only; omega) _ | with_reducible refine Keeps.trans ?_ (by assumption)))))
  go_wp2_with fail
  (go_at_call 21; refine (HHi.out _ (by (repeat (first | with_reducible exact Keeps.refl _ | with_reducible assumption | with_reducible refine Keeps.alloc ?_ _ | with_reducible refine Keeps.drewN ?_ _ | with_reducible refine Keeps.drew ?_ | refine Keeps.setCell ?_ (by dsimp only; omega) _ | with_reducible refine Keeps.trans ?_ (by assumption))))).mono ?_; rintro e w1 ⟨rfl, hb⟩; have hsz := hb.size; have zf := fun o : Nat => (hb.upd (fun _ => False)).frozen (a := ⟨w.heap.size + 2, o, none⟩) (by dsimp only; omega) (fun h => h) (zf o); have y0 := hb.cell y0; have y1 := hb.cell y1; have x0 := hb.cell x0; have x1 := hb.cell x1; have z0 := hb.cell z0; have z1 := hb.cell z1; have hz0 : w.heap.size < w1.heap.size := (by omega); have hz1 : w.heap.size + 1 < w1.heap.size := (by omega); have hz2 : w.heap.size + 2 < w1.heap.size := (by omega); have hk : Keeps w w1 := (by (repeat (first | with_reducible exact Keeps.refl _ | with_reducible assumption | with_reducible refine Keeps.alloc ?_ _ | with_reducible refine Keeps.drewN ?_ _ | with_reducible refine Keeps.drew ?_ | refine Keeps.setCell ?_ (by dsimp only; omega) _ | with_reducible refine Keeps.trans ?_ (by assumption)))))
  go_wp2_with (first | (go_at_call 61; refine (HF.out _ (by (repeat (first | with_reducible exact Keeps.refl _ | with_reducible assumption | with_reducible refine Keeps.alloc ?_ _ | with_reducible refine Keeps.drewN ?_ _ | with_reducible refine Keeps.drew ?_ | refine Keeps.setCell ?_ (by dsimp only; omega) _ | with_reducible refine Keeps.trans ?_ (by assumption))))).mono ?_; rintro e w2 ⟨rfl, hu, hR⟩; have hsz2 := hu.size; have hv2 : w.heap.size + 2 < w2.heap.size := (by omega); have v0 := hu.cell (a := ⟨w.heap.size + 2, 0, none⟩) n2 z0; have v1 := hu.cell (a := ⟨w.heap.size + 2, 1, none⟩) n2 z1; have vf := fun o : Nat => hu.frozen (a := ⟨w.heap.size + 2, o, none⟩) hz2 n2 (zf o)) | fail)
  refine bodyPost_ret (v := .tuple #[.agg #[.int .u8 a, .int .u32 b], .int .u8 er]) (by simp [results, Try.results19, go_sem, hv2, v0, v1]) rfl ⟨rfl, w1, w2, hk, hu, hR, ?_⟩
  (repeat (first | with_reducible exact Upd.refl _ _ | refine Upd.setCell ?_ (Or.inl (by dsimp only; omega)) _ | with_reducible refine Upd.drewN ?_ _ | with_reducible refine Upd.drew ?_ | with_reducible refine Upd.alloc ?_ _))

end Go.Proofs.Ytimffidpbcflaaa
