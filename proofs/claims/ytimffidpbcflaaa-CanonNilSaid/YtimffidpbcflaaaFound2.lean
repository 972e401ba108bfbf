/-
  Four more 'found' (printed by wip/mk_found.py).
-/
import Derived.Test.YtimffidpbcflaaaFound
namespace Go.Proofs.Ytimffidpbcflaaa
set_option linter.unusedSimpArgs false
set_option linter.unusedVariables false
set_option maxHeartbeats 600000
open Go.RowKit

set_option maxRecDepth 100000 in
theorem bfound_ok {F : Nat → Prop} (sb : Nat) (r : Rec) (id : Int) (w : World) (hsb : sb < w.heap.size) (hlt : ∀ k, F k → k < w.heap.size) (R : World → World → Prop)
    (hf : ∀ W, Keeps w W → Calls Try.prog 42 #[.pointer (some ⟨sb, 0, none⟩), .agg #[.int .u8 r.form, .int .u8 r.top, .int .u8 r.bot, .int .u8 r.lo.tag, .int .u32 r.lo.to, .int .u8 r.hi.tag, .int .u32 r.hi.to]] W fun e w' => e = .returned (.tuple #[.int .u32 id, .int .u8 0]) ∧ Upd F W w' ∧ R W w') :
    Calls Try.prog 114 #[.pointer (some ⟨sb, 0, none⟩), .agg #[.int .u8 r.form, .int .u8 r.top, .int .u8 r.bot, .int .u8 r.lo.tag, .int .u32 r.lo.to, .int .u8 r.hi.tag, .int .u32 r.hi.to]] w fun e w' => e = .returned (.tuple #[.agg #[.int .u8 0, .int .u32 id], .int .u8 0]) ∧
      ∃ W W1, Keeps w W ∧ Upd F W W1 ∧ R W W1 ∧ Upd (fun k => w.heap.size ≤ k ∧ k < W.heap.size) W1 w' := by
  have HF := Lib.hid hf
  have HL := Lib.hid hlt
  clear hf hlt
  have n0 : ¬ F w.heap.size := fun h => by have := HL.out _ h; omega
  have n1 : ¬ F (w.heap.size + 1) := fun h => by have := HL.out _ h; omega
  go_enter Try.func114, Try.ntmps114
  go_wp2_with (go_at_call 42; refine (HF.out _ (by (repeat (first | with_reducible exact Keeps.refl _ | with_reducible assumption | with_reducible refine Keeps.alloc ?_ _ | with_reducible refine Keeps.drewN ?_ _ | with_reducible refine Keeps.drew ?_ | refine Keeps.setCell ?_ (by dsimp only; omega) _ | with_reducible refine Keeps.trans ?_ (by assumption))))).mono ?_; rintro e w1 ⟨rfl, hu, hR⟩; have hsz := hu.size; simp only [World.size_alloc] at hsz; have y1 := hu.cell (a := ⟨w.heap.size, 1, none⟩) n0 (v := .int .u8 r.top) (by simp); have z0 := hu.cell (a := ⟨w.heap.size + 1, 0, none⟩) n1 (v := .int .u8 0) (by simp); have z1 := hu.cell (a := ⟨w.heap.size + 1, 1, none⟩) n1 (v := .int .u32 0) (by simp); have zf := fun o : Nat => hu.frozen (a := ⟨w.heap.size + 1, o, none⟩) (by simp) n1 (by simp); have hz1 : w.heap.size + 1 < w1.heap.size := (by omega); have hz0 : w.heap.size < w1.heap.size := (by omega))
  refine bodyPost_ret (v := .tuple #[.agg #[.int .u8 0, .int .u32 id], .int .u8 0]) (by simp [results, Try.results114, go_sem, hz1, z0, z1]) rfl ⟨rfl, _, w1, ?_, hu, hR, ?_⟩
  · (repeat (first | with_reducible exact Keeps.refl _ | with_reducible assumption | with_reducible refine Keeps.alloc ?_ _ | with_reducible refine Keeps.drewN ?_ _ | with_reducible refine Keeps.drew ?_ | refine Keeps.setCell ?_ (by dsimp only; omega) _ | with_reducible refine Keeps.trans ?_ (by assumption)))
  · (have hz2 : (w.alloc (.cells #[.int .u8 r.form, .int .u8 r.top, .int .u8 r.bot, .int .u8 r.lo.tag, .int .u32 r.lo.to, .int .u8 r.hi.tag, .int .u32 r.hi.to] 58)).heap.size = w.heap.size + 1 := by simp); (try simp only [World.size_alloc]); (repeat (first | with_reducible exact Upd.refl _ _ | refine Upd.setCell ?_ (Or.inl (by dsimp only; omega)) _ | with_reducible refine Upd.drewN ?_ _ | with_reducible refine Upd.drew ?_ | with_reducible refine Upd.alloc ?_ _))

set_option maxRecDepth 100000 in
theorem bfound_bad {F : Nat → Prop} (sb : Nat) (r : Rec) (id er : Int) (her : er ≠ 0) (w : World) (hsb : sb < w.heap.size) (hlt : ∀ k, F k → k < w.heap.size) (R : World → World → Prop)
    (hf : ∀ W, Keeps w W → Calls Try.prog 42 #[.pointer (some ⟨sb, 0, none⟩), .agg #[.int .u8 r.form, .int .u8 r.top, .int .u8 r.bot, .int .u8 r.lo.tag, .int .u32 r.lo.to, .int .u8 r.hi.tag, .int .u32 r.hi.to]] W fun e w' => e = .returned (.tuple #[.int .u32 id, .int .u8 er]) ∧ Upd F W w' ∧ R W w') :
    Calls Try.prog 114 #[.pointer (some ⟨sb, 0, none⟩), .agg #[.int .u8 r.form, .int .u8 r.top, .int .u8 r.bot, .int .u8 r.lo.tag, .int .u32 r.lo.to, .int .u8 r.hi.tag, .int .u32 r.hi.to]] w fun e w' => e = .returned (.tuple #[.agg #[.int .u8 0, .int .u32 0], .int .u8 er]) ∧
      ∃ W W1, Keeps w W ∧ Upd F W W1 ∧ R W W1 ∧ Upd (fun k => w.heap.size ≤ k ∧ k < W.heap.size) W1 w' := by
  have HF := Lib.hid hf
  have HL := Lib.hid hlt
  clear hf hlt
  have n0 : ¬ F w.heap.size := fun h => by have := HL.out _ h; omega
  have n1 : ¬ F (w.heap.size + 1) := fun h => by have := HL.out _ h; omega
  go_enter Try.func114, Try.ntmps114
  go_wp2_with (go_at_call 42; refine (HF.out _ (by (repeat (first | with_reducible exact Keeps.refl _ | with_reducible assumption | with_reducible refine Keeps.alloc ?_ _ | with_reducible refine Keeps.drewN ?_ _ | with_reducible refine Keeps.drew ?_ | refine Keeps.setCell ?_ (by dsimp only; omega) _ | with_reducible refine Keeps.trans ?_ (by assumption))))).mono ?_; rintro e w1 ⟨rfl, hu, hR⟩; have hsz := hu.size; simp only [World.size_alloc] at hsz; have y1 := hu.cell (a := ⟨w.heap.size, 1, none⟩) n0 (v := .int .u8 r.top) (by simp); have z0 := hu.cell (a := ⟨w.heap.size + 1, 0, none⟩) n1 (v := .int .u8 0) (by simp); have z1 := hu.cell (a := ⟨w.heap.size + 1, 1, none⟩) n1 (v := .int .u32 0) (by simp); have zf := fun o : Nat => hu.frozen (a := ⟨w.heap.size + 1, o, none⟩) (by simp) n1 (by simp); have hz1 : w.heap.size + 1 < w1.heap.size := (by omega); have hz0 : w.heap.size < w1.heap.size := (by omega))
  refine bodyPost_ret (v := .tuple #[.agg #[.int .u8 0, .int .u32 0], .int .u8 er]) (by simp [results, Try.results114, go_sem, hz1, z0, z1]) rfl ⟨rfl, _, w1, ?_, hu, hR, ?_⟩
  · (repeat (first | with_reducible exact Keeps.refl _ | with_reducible assumption | with_reducible refine Keeps.alloc ?_ _ | with_reducible refine Keeps.drewN ?_ _ | with_reducible refine Keeps.drew ?_ | refine Keeps.setCell ?_ (by dsimp only; omega) _ | with_reducible refine Keeps.trans ?_ (by assumption)))
  · (have hz2 : (w.alloc (.cells #[.int .u8 r.form, .int .u8 r.top, .int .u8 r.bot, .int .u8 r.lo.tag, .int .u32 r.lo.to, .int .u8 r.hi.tag, .int .u32 r.hi.to] 58)).heap.size = w.heap.size + 1 := by simp); (try simp only [World.size_alloc]); (repeat (first | with_reducible exact Upd.refl _ _ | refine Upd.setCell ?_ (Or.inl (by dsimp only; omega)) _ | with_reducible refine Upd.drewN ?_ _ | with_reducible refine Upd.drew ?_ | with_reducible refine Upd.alloc ?_ _))

set_option maxRecDepth 100000 in
theorem yfound_ok {F : Nat → Prop} (sb : Nat) (r : Rec) (id : Int) (w : World) (hsb : sb < w.heap.size) (hlt : ∀ k, F k → k < w.heap.size) (R : World → World → Prop)
    (hf : ∀ W, Keeps w W → Calls Try.prog 42 #[.pointer (some ⟨sb, 0, none⟩), .agg #[.int .u8 r.form, .int .u8 r.top, .int .u8 r.bot, .int .u8 r.lo.tag, .int .u32 r.lo.to, .int .u8 r.hi.tag, .int .u32 r.hi.to]] W fun e w' => e = .returned (.tuple #[.int .u32 id, .int .u8 0]) ∧ Upd F W w' ∧ R W w') :
    Calls Try.prog 115 #[.pointer (some ⟨sb, 0, none⟩), .agg #[.int .u8 r.form, .int .u8 r.top, .int .u8 r.bot, .int .u8 r.lo.tag, .int .u32 r.lo.to, .int .u8 r.hi.tag, .int .u32 r.hi.to]] w fun e w' => e = .returned (.tuple #[.agg #[.int .u8 0, .int .u32 id], .int .u8 0]) ∧
      ∃ W W1, Keeps w W ∧ Upd F W W1 ∧ R W W1 ∧ Upd (fun k => w.heap.size ≤ k ∧ k < W.heap.size) W1 w' := by
  have HF := Lib.hid hf
  have HL := Lib.hid hlt
  clear hf hlt
  have n0 : ¬ F w.heap.size := fun h => by have := HL.out _ h; omega
  have n1 : ¬ F (w.heap.size + 1) := fun h => by have := HL.out _ h; omega
  go_enter Try.func115, Try.ntmps115
  go_wp2_with (go_at_call 42; refine (HF.out _ (by (repeat (first | with_reducible exact Keeps.refl _ | with_reducible assumption | with_reducible refine Keeps.alloc ?_ _ | with_reducible refine Keeps.drewN ?_ _ | with_reducible refine Keeps.drew ?_ | refine Keeps.setCell ?_ (by dsimp only; omega) _ | with_reducible refine Keeps.trans ?_ (by assumption))))).mono ?_; rintro e w1 ⟨rfl, hu, hR⟩; have hsz := hu.size; simp only [World.size_alloc] at hsz; have y1 := hu.cell (a := ⟨w.heap.size, 1, none⟩) n0 (v := .int .u8 r.top) (by simp); have z0 := hu.cell (a := ⟨w.heap.size + 1, 0, none⟩) n1 (v := .int .u8 0) (by simp); have z1 := hu.cell (a := ⟨w.heap.size + 1, 1, none⟩) n1 (v := .int .u32 0) (by simp); have zf := fun o : Nat => hu.frozen (a := ⟨w.heap.size + 1, o, none⟩) (by simp) n1 (by simp); have hz1 : w.heap.size + 1 < w1.heap.size := (by omega); have hz0 : w.heap.size < w1.heap.size := (by omega))
  refine bodyPost_ret (v := .tuple #[.agg #[.int .u8 0, .int .u32 id], .int .u8 0]) (by simp [results, Try.results115, go_sem, hz1, z0, z1]) rfl ⟨rfl, _, w1, ?_, hu, hR, ?_⟩
  · (repeat (first | with_reducible exact Keeps.refl _ | with_reducible assumption | with_reducible refine Keeps.alloc ?_ _ | with_reducible refine Keeps.drewN ?_ _ | with_reducible refine Keeps.drew ?_ | refine Keeps.setCell ?_ (by dsimp only; omega) _ | with_reducible refine Keeps.trans ?_ (by assumption)))
  · (have hz2 : (w.alloc (.cells #[.int .u8 r.form, .int .u8 r.top, .int .u8 r.bot, .int .u8 r.lo.tag, .int .u32 r.lo.to, .int .u8 r.hi.tag, .int .u32 r.hi.to] 58)).heap.size = w.heap.size + 1 := by simp); (try simp only [World.size_alloc]); (repeat (first | with_reducible exact Upd.refl _ _ | refine Upd.setCell ?_ (Or.inl (by dsimp only; omega)) _ | with_reducible refine Upd.drewN ?_ _ | with_reducible refine Upd.drew ?_ | with_reducible refine Upd.alloc ?_ _))

set_option maxRecDepth 100000 in
theorem yfound_bad {F : Nat → Prop} (sb : Nat) (r : Rec) (id er : Int) (her : er ≠ 0) (w : World) (hsb : sb < w.heap.size) (hlt : ∀ k, F k → k < w.heap.size) (R : World → World → Prop)
    (hf : ∀ W, Keeps w W → Calls Try.prog 42 #[.pointer (some ⟨sb, 0, none⟩), .agg #[.int .u8 r.form, .int .u8 r.top, .int .u8 r.bot, .int .u8 r.lo.tag, .int .u32 r.lo.to, .int .u8 r.hi.tag, .int .u32 r.hi.to]] W fun e w' => e = .returned (.tuple #[.int .u32 id, .int .u8 er]) ∧ Upd F W w' ∧ R W w') :
    Calls Try.prog 115 #[.pointer (some ⟨sb, 0, none⟩), .agg #[.int .u8 r.form, .int .u8 r.top, .int .u8 r.bot, .int .u8 r.lo.tag, .int .u32 r.lo.to, .int .u8 r.hi.tag, .int .u32 r.hi.to]] w fun e w' => e = .returned (.tuple #[.agg #[.int .u8 0, .int .u32 0], .int .u8 er]) ∧
      ∃ W W1, Keeps w W ∧ Upd F W W1 ∧ R W W1 ∧ Upd (fun k => w.heap.size ≤ k ∧ k < W.heap.size) W1 w' := by
  have HF := Lib.hid hf
  have HL := Lib.hid hlt
  clear hf hlt
  have n0 : ¬ F w.heap.size := fun h => by have := HL.out _ h; omega
  have n1 : ¬ F (w.heap.size + 1) := fun h => by have := HL.out _ h; omega
  go_enter Try.func115, Try.ntmps115
  go_wp2_with (go_at_call 42; refine (HF.out _ (by (repeat (first | with_reducible exact Keeps.refl _ | with_reducible assumption | with_reducible refine Keeps.alloc ?_ _ | with_reducible refine Keeps.drewN ?_ _ | with_reducible refine Keeps.drew ?_ | refine Keeps.setCell ?_ (by dsimp only; omega) _ | with_reducible refine Keeps.trans ?_ (by assumption))))).mono ?_; rintro e w1 ⟨rfl, hu, hR⟩; have hsz := hu.size; simp only [World.size_alloc] at hsz; have y1 := hu.cell (a := ⟨w.heap.size, 1, none⟩) n0 (v := .int .u8 r.top) (by simp); have z0 := hu.cell (a := ⟨w.heap.size + 1, 0, none⟩) n1 (v := .int .u8 0) (by simp); have z1 := hu.cell (a := ⟨w.heap.size + 1, 1, none⟩) n1 (v := .int .u32 0) (by simp); have zf := fun o : Nat => hu.frozen (a := ⟨w.heap.size + 1, o, none⟩) (by simp) n1 (by simp); have hz1 : w.heap.size + 1 < w1.heap.size := (by omega); have hz0 : w.heap.size < w1.heap.size := (by omega))
  refine bodyPost_ret (v := .tuple #[.agg #[.int .u8 0, .int .u32 0], .int .u8 er]) (by simp [results, Try.results115, go_sem, hz1, z0, z1]) rfl ⟨rfl, _, w1, ?_, hu, hR, ?_⟩
  · (repeat (first | with_reducible exact Keeps.refl _ | with_reducible assumption | with_reducible refine Keeps.alloc ?_ _ | with_reducible refine Keeps.drewN ?_ _ | with_reducible refine Keeps.drew ?_ | refine Keeps.setCell ?_ (by dsimp only; omega) _ | with_reducible refine Keeps.trans ?_ (by assumption)))
  · (have hz2 : (w.alloc (.cells #[.int .u8 r.form, .int .u8 r.top, .int .u8 r.bot, .int .u8 r.lo.tag, .int .u32 r.lo.to, .int .u8 r.hi.tag, .int .u32 r.hi.to] 58)).heap.size = w.heap.size + 1 := by simp); (try simp only [World.size_alloc]); (repeat (first | with_reducible exact Upd.refl _ _ | refine Upd.setCell ?_ (Or.inl (by dsimp only; omega)) _ | with_reducible refine Upd.drewN ?_ _ | with_reducible refine Upd.drew ?_ | with_reducible refine Upd.alloc ?_ _))

end Go.Proofs.Ytimffidpbcflaaa
