/-
  Proved: the statement CanonNil, for every input (printed by wip/mk_nil.py).
-/
import Derived.Test.YtimffidpbcflaaaMSB
import Derived.Test.YtimffidpbcflaaaMSZ
import Derived.Test.YtimffidpbcflaaaMSC
import Derived.Test.YtimffidpbcflaaaMSQ
import Derived.Test.YtimffidpbcflaaaMErr
import Derived.Deep.LoopGhost
import Derived.BigRegion
import Derived.Test.YtimffidpbcflaaaSame
import Derived.Test.YtimffidpbcflaaaRows
import Derived.Test.YtimffidpbcflaaaNilBase
import Derived.Test.YtimffidpbcflaaaOpens
namespace Go.Proofs.Ytimffidpbcflaaa
set_option linter.unusedSimpArgs false
set_option linter.unusedVariables false
set_option maxHeartbeats 600000
open Go.RowKit

/-- What Make of any form does. -/
def kAct (M : St) (f l : Int) (lo hi : Edge) : (Edge × Int) ⊕ Rec :=
  if f = 1 then makeAct M 1 l lo hi (bRest M l lo hi) else if f = 2 then makeAct M 2 l lo hi (zRest M l lo hi) else if f = 3 then makeAct M 3 l lo hi (cRest M l lo hi)
  else if f = 4 then makeAct M 4 l lo hi (qRest M l lo hi) else if f = 5 then tAct M l lo hi else .inl (⟨0, 0⟩, 4)

/-- The edge that it tells. -/
def kE (M : St) (f : Int) (a : (Edge × Int) ⊕ Rec) : Edge := if f = 5 then actE M a else actE0 M a

theorem kErr (M : St) (f l : Int) (lo hi : Edge) : 0 ≤ actErr M (kAct M f l lo hi) ∧ actErr M (kAct M f l lo hi) ≤ 255 := by
  unfold kAct
  split
  · exact makeErr M 1 l lo hi _ (bRest_err M l lo hi)
  · split
    · exact makeErr M 2 l lo hi _ (zRest_err M l lo hi)
    · split
      · exact makeErr M 3 l lo hi _ (cRest_err M l lo hi)
      · split
        · exact makeErr M 4 l lo hi _ (qRest_err M l lo hi)
        · split
          · exact actErr_range M l lo hi
          · simp [actErr]

set_option maxRecDepth 100000 in
theorem kmake_b {F : Nat → Prop} (R : World → World → Prop) (sb : Nat) (l a b er : Int) (lo hi : Edge) (w : World) (hsb : sb < w.heap.size) (hlt : ∀ k, F k → k < w.heap.size)
    (hf : ∀ W, Keeps w W → Calls Try.prog 90 #[.pointer (some ⟨sb, 0, none⟩), .int .i64 l, .agg #[.int .u8 lo.tag, .int .u32 lo.to], .agg #[.int .u8 hi.tag, .int .u32 hi.to]] W fun e w' => e = .returned (.tuple #[.agg #[.int .u8 a, .int .u32 b], .int .u8 er]) ∧ Upd F W w' ∧ R W w') :
    Calls Try.prog 55 #[.pointer (some ⟨sb, 0, none⟩), .int .u8 1, .int .i64 l, .agg #[.int .u8 lo.tag, .int .u32 lo.to], .agg #[.int .u8 hi.tag, .int .u32 hi.to]] w fun e w' => e = .returned (.tuple #[.agg #[.int .u8 a, .int .u32 b], .int .u8 er]) ∧
      ∃ W W1, Keeps w W ∧ Upd F W W1 ∧ R W W1 ∧ Upd (fun k => w.heap.size ≤ k ∧ k < W.heap.size) W1 w' := by
  have HF := Lib.hid hf
  have nF : ∀ k, w.heap.size ≤ k → ¬ F k := fun k hk h => by have := hlt k h; omega
  have n2 := nF (w.heap.size + 2) (by omega)
  clear hf hlt nF
  go_enter Try.func55, Try.ntmps55
  go_wp2_with (go_at_call 90; refine (HF.out _ (by (repeat (first | with_reducible exact Keeps.refl _ | with_reducible assumption | with_reducible refine Keeps.alloc ?_ _ | with_reducible refine Keeps.drewN ?_ _ | with_reducible refine Keeps.drew ?_ | refine Keeps.setCell ?_ (by dsimp only; omega) _ | with_reducible refine Keeps.trans ?_ (by assumption))))).mono ?_; rintro e w3 ⟨rfl, hu, hR⟩; have hs3 := hu.size; (try simp only [World.size_alloc, World.size_setCell, World.size_drew] at hs3); have v0 := hu.cell (a := ⟨w.heap.size + 2, 0, none⟩) n2 (v := .int .u8 0) (by simp [go_sem]); have v1 := hu.cell (a := ⟨w.heap.size + 2, 1, none⟩) n2 (v := .int .u32 0) (by simp [go_sem]); have vf := fun o : Nat => hu.frozen (a := ⟨w.heap.size + 2, o, none⟩) (by simp [go_sem]) n2 (by simp [go_sem]); have hv2 : w.heap.size + 2 < w3.heap.size := (by omega))
  all_goals refine bodyPost_ret (v := .tuple #[.agg #[.int .u8 a, .int .u32 b], .int .u8 er]) (by simp [results, Try.results55, go_sem, hv2, v0, v1]) rfl ⟨rfl, _, w3, by (repeat (first | with_reducible exact Keeps.refl _ | with_reducible assumption | with_reducible refine Keeps.alloc ?_ _ | with_reducible refine Keeps.drewN ?_ _ | with_reducible refine Keeps.drew ?_ | refine Keeps.setCell ?_ (by dsimp only; omega) _ | with_reducible refine Keeps.trans ?_ (by assumption))), hu, hR, ?_⟩
  all_goals (try simp only [World.size_alloc, World.size_setCell, World.size_drew])
  all_goals (repeat (first | with_reducible exact Upd.refl _ _ | exact Upd.mono hu4 (fun k _ hk => ⟨hk.1, by (try simp only [World.size_alloc, World.size_setCell, World.size_drew]); have := hk.2; omega⟩) | refine Upd.setCell ?_ (Or.inl (by dsimp only; omega)) _ | refine Upd.setCell ?_ (Or.inr (by dsimp only; omega)) _ | with_reducible refine Upd.drewN ?_ _ | with_reducible refine Upd.drew ?_ | with_reducible refine Upd.alloc ?_ _))

set_option maxRecDepth 100000 in
theorem kmake_z {F : Nat → Prop} (R : World → World → Prop) (sb : Nat) (l a b er : Int) (lo hi : Edge) (w : World) (hsb : sb < w.heap.size) (hlt : ∀ k, F k → k < w.heap.size)
    (hf : ∀ W, Keeps w W → Calls Try.prog 91 #[.pointer (some ⟨sb, 0, none⟩), .int .i64 l, .agg #[.int .u8 lo.tag, .int .u32 lo.to], .agg #[.int .u8 hi.tag, .int .u32 hi.to]] W fun e w' => e = .returned (.tuple #[.agg #[.int .u8 a, .int .u32 b], .int .u8 er]) ∧ Upd F W w' ∧ R W w') :
    Calls Try.prog 55 #[.pointer (some ⟨sb, 0, none⟩), .int .u8 2, .int .i64 l, .agg #[.int .u8 lo.tag, .int .u32 lo.to], .agg #[.int .u8 hi.tag, .int .u32 hi.to]] w fun e w' => e = .returned (.tuple #[.agg #[.int .u8 a, .int .u32 b], .int .u8 er]) ∧
      ∃ W W1, Keeps w W ∧ Upd F W W1 ∧ R W W1 ∧ Upd (fun k => w.heap.size ≤ k ∧ k < W.heap.size) W1 w' := by
  have HF := Lib.hid hf
  have nF : ∀ k, w.heap.size ≤ k → ¬ F k := fun k hk h => by have := hlt k h; omega
  have n2 := nF (w.heap.size + 2) (by omega)
  clear hf hlt nF
  go_enter Try.func55, Try.ntmps55
  go_wp2_with (go_at_call 91; refine (HF.out _ (by (repeat (first | with_reducible exact Keeps.refl _ | with_reducible assumption | with_reducible refine Keeps.alloc ?_ _ | with_reducible refine Keeps.drewN ?_ _ | with_reducible refine Keeps.drew ?_ | refine Keeps.setCell ?_ (by dsimp only; omega) _ | with_reducible refine Keeps.trans ?_ (by assumption))))).mono ?_; rintro e w3 ⟨rfl, hu, hR⟩; have hs3 := hu.size; (try simp only [World.size_alloc, World.size_setCell, World.size_drew] at hs3); have v0 := hu.cell (a := ⟨w.heap.size + 2, 0, none⟩) n2 (v := .int .u8 0) (by simp [go_sem]); have v1 := hu.cell (a := ⟨w.heap.size + 2, 1, none⟩) n2 (v := .int .u32 0) (by simp [go_sem]); have vf := fun o : Nat => hu.frozen (a := ⟨w.heap.size + 2, o, none⟩) (by simp [go_sem]) n2 (by simp [go_sem]); have hv2 : w.heap.size + 2 < w3.heap.size := (by omega))
  all_goals refine bodyPost_ret (v := .tuple #[.agg #[.int .u8 a, .int .u32 b], .int .u8 er]) (by simp [results, Try.results55, go_sem, hv2, v0, v1]) rfl ⟨rfl, _, w3, by (repeat (first | with_reducible exact Keeps.refl _ | with_reducible assumption | with_reducible refine Keeps.alloc ?_ _ | with_reducible refine Keeps.drewN ?_ _ | with_reducible refine Keeps.drew ?_ | refine Keeps.setCell ?_ (by dsimp only; omega) _ | with_reducible refine Keeps.trans ?_ (by assumption))), hu, hR, ?_⟩
  all_goals (try simp only [World.size_alloc, World.size_setCell, World.size_drew])
  all_goals (repeat (first | with_reducible exact Upd.refl _ _ | exact Upd.mono hu4 (fun k _ hk => ⟨hk.1, by (try simp only [World.size_alloc, World.size_setCell, World.size_drew]); have := hk.2; omega⟩) | refine Upd.setCell ?_ (Or.inl (by dsimp only; omega)) _ | refine Upd.setCell ?_ (Or.inr (by dsimp only; omega)) _ | with_reducible refine Upd.drewN ?_ _ | with_reducible refine Upd.drew ?_ | with_reducible refine Upd.alloc ?_ _))

set_option maxRecDepth 100000 in
theorem kmake_c {F : Nat → Prop} (R : World → World → Prop) (sb : Nat) (l a b er : Int) (lo hi : Edge) (w : World) (hsb : sb < w.heap.size) (hlt : ∀ k, F k → k < w.heap.size)
    (hf : ∀ W, Keeps w W → Calls Try.prog 40 #[.pointer (some ⟨sb, 0, none⟩), .int .i64 l, .agg #[.int .u8 lo.tag, .int .u32 lo.to], .agg #[.int .u8 hi.tag, .int .u32 hi.to]] W fun e w' => e = .returned (.tuple #[.agg #[.int .u8 a, .int .u32 b], .int .u8 er]) ∧ Upd F W w' ∧ R W w') :
    Calls Try.prog 55 #[.pointer (some ⟨sb, 0, none⟩), .int .u8 3, .int .i64 l, .agg #[.int .u8 lo.tag, .int .u32 lo.to], .agg #[.int .u8 hi.tag, .int .u32 hi.to]] w fun e w' => e = .returned (.tuple #[.agg #[.int .u8 a, .int .u32 b], .int .u8 er]) ∧
      ∃ W W1, Keeps w W ∧ Upd F W W1 ∧ R W W1 ∧ Upd (fun k => w.heap.size ≤ k ∧ k < W.heap.size) W1 w' := by
  have HF := Lib.hid hf
  have nF : ∀ k, w.heap.size ≤ k → ¬ F k := fun k hk h => by have := hlt k h; omega
  have n2 := nF (w.heap.size + 2) (by omega)
  clear hf hlt nF
  go_enter Try.func55, Try.ntmps55
  go_wp2_with (go_at_call 40; refine (HF.out _ (by (repeat (first | with_reducible exact Keeps.refl _ | with_reducible assumption | with_reducible refine Keeps.alloc ?_ _ | with_reducible refine Keeps.drewN ?_ _ | with_reducible refine Keeps.drew ?_ | refine Keeps.setCell ?_ (by dsimp only; omega) _ | with_reducible refine Keeps.trans ?_ (by assumption))))).mono ?_; rintro e w3 ⟨rfl, hu, hR⟩; have hs3 := hu.size; (try simp only [World.size_alloc, World.size_setCell, World.size_drew] at hs3); have v0 := hu.cell (a := ⟨w.heap.size + 2, 0, none⟩) n2 (v := .int .u8 0) (by simp [go_sem]); have v1 := hu.cell (a := ⟨w.heap.size + 2, 1, none⟩) n2 (v := .int .u32 0) (by simp [go_sem]); have vf := fun o : Nat => hu.frozen (a := ⟨w.heap.size + 2, o, none⟩) (by simp [go_sem]) n2 (by simp [go_sem]); have hv2 : w.heap.size + 2 < w3.heap.size := (by omega))
  all_goals refine bodyPost_ret (v := .tuple #[.agg #[.int .u8 a, .int .u32 b], .int .u8 er]) (by simp [results, Try.results55, go_sem, hv2, v0, v1]) rfl ⟨rfl, _, w3, by (repeat (first | with_reducible exact Keeps.refl _ | with_reducible assumption | with_reducible refine Keeps.alloc ?_ _ | with_reducible refine Keeps.drewN ?_ _ | with_reducible refine Keeps.drew ?_ | refine Keeps.setCell ?_ (by dsimp only; omega) _ | with_reducible refine Keeps.trans ?_ (by assumption))), hu, hR, ?_⟩
  all_goals (try simp only [World.size_alloc, World.size_setCell, World.size_drew])
  all_goals (repeat (first | with_reducible exact Upd.refl _ _ | exact Upd.mono hu4 (fun k _ hk => ⟨hk.1, by (try simp only [World.size_alloc, World.size_setCell, World.size_drew]); have := hk.2; omega⟩) | refine Upd.setCell ?_ (Or.inl (by dsimp only; omega)) _ | refine Upd.setCell ?_ (Or.inr (by dsimp only; omega)) _ | with_reducible refine Upd.drewN ?_ _ | with_reducible refine Upd.drew ?_ | with_reducible refine Upd.alloc ?_ _))

set_option maxRecDepth 100000 in
theorem kmake_q {F : Nat → Prop} (R : World → World → Prop) (sb : Nat) (l a b er : Int) (lo hi : Edge) (w : World) (hsb : sb < w.heap.size) (hlt : ∀ k, F k → k < w.heap.size)
    (hf : ∀ W, Keeps w W → Calls Try.prog 35 #[.pointer (some ⟨sb, 0, none⟩), .int .i64 l, .agg #[.int .u8 lo.tag, .int .u32 lo.to], .agg #[.int .u8 hi.tag, .int .u32 hi.to]] W fun e w' => e = .returned (.tuple #[.agg #[.int .u8 a, .int .u32 b], .int .u8 er]) ∧ Upd F W w' ∧ R W w') :
    Calls Try.prog 55 #[.pointer (some ⟨sb, 0, none⟩), .int .u8 4, .int .i64 l, .agg #[.int .u8 lo.tag, .int .u32 lo.to], .agg #[.int .u8 hi.tag, .int .u32 hi.to]] w fun e w' => e = .returned (.tuple #[.agg #[.int .u8 a, .int .u32 b], .int .u8 er]) ∧
      ∃ W W1, Keeps w W ∧ Upd F W W1 ∧ R W W1 ∧ Upd (fun k => w.heap.size ≤ k ∧ k < W.heap.size) W1 w' := by
  have HF := Lib.hid hf
  have nF : ∀ k, w.heap.size ≤ k → ¬ F k := fun k hk h => by have := hlt k h; omega
  have n2 := nF (w.heap.size + 2) (by omega)
  clear hf hlt nF
  go_enter Try.func55, Try.ntmps55
  go_wp2_with (go_at_call 35; refine (HF.out _ (by (repeat (first | with_reducible exact Keeps.refl _ | with_reducible assumption | with_reducible refine Keeps.alloc ?_ _ | with_reducible refine Keeps.drewN ?_ _ | with_reducible refine Keeps.drew ?_ | refine Keeps.setCell ?_ (by dsimp only; omega) _ | with_reducible refine Keeps.trans ?_ (by assumption))))).mono ?_; rintro e w3 ⟨rfl, hu, hR⟩; have hs3 := hu.size; (try simp only [World.size_alloc, World.size_setCell, World.size_drew] at hs3); have v0 := hu.cell (a := ⟨w.heap.size + 2, 0, none⟩) n2 (v := .int .u8 0) (by simp [go_sem]); have v1 := hu.cell (a := ⟨w.heap.size + 2, 1, none⟩) n2 (v := .int .u32 0) (by simp [go_sem]); have vf := fun o : Nat => hu.frozen (a := ⟨w.heap.size + 2, o, none⟩) (by simp [go_sem]) n2 (by simp [go_sem]); have hv2 : w.heap.size + 2 < w3.heap.size := (by omega))
  all_goals refine bodyPost_ret (v := .tuple #[.agg #[.int .u8 a, .int .u32 b], .int .u8 er]) (by simp [results, Try.results55, go_sem, hv2, v0, v1]) rfl ⟨rfl, _, w3, by (repeat (first | with_reducible exact Keeps.refl _ | with_reducible assumption | with_reducible refine Keeps.alloc ?_ _ | with_reducible refine Keeps.drewN ?_ _ | with_reducible refine Keeps.drew ?_ | refine Keeps.setCell ?_ (by dsimp only; omega) _ | with_reducible refine Keeps.trans ?_ (by assumption))), hu, hR, ?_⟩
  all_goals (try simp only [World.size_alloc, World.size_setCell, World.size_drew])
  all_goals (repeat (first | with_reducible exact Upd.refl _ _ | exact Upd.mono hu4 (fun k _ hk => ⟨hk.1, by (try simp only [World.size_alloc, World.size_setCell, World.size_drew]); have := hk.2; omega⟩) | refine Upd.setCell ?_ (Or.inl (by dsimp only; omega)) _ | refine Upd.setCell ?_ (Or.inr (by dsimp only; omega)) _ | with_reducible refine Upd.drewN ?_ _ | with_reducible refine Upd.drew ?_ | with_reducible refine Upd.alloc ?_ _))

set_option maxRecDepth 100000 in
theorem kmake_t {F : Nat → Prop} (R : World → World → Prop) (sb : Nat) (l a b er : Int) (lo hi : Edge) (w : World) (hsb : sb < w.heap.size) (hlt : ∀ k, F k → k < w.heap.size)
    (hf : ∀ W, Keeps w W → Calls Try.prog 19 #[.pointer (some ⟨sb, 0, none⟩), .int .i64 l, .agg #[.int .u8 lo.tag, .int .u32 lo.to], .agg #[.int .u8 hi.tag, .int .u32 hi.to]] W fun e w' => e = .returned (.tuple #[.agg #[.int .u8 a, .int .u32 b], .int .u8 er]) ∧ Upd F W w' ∧ R W w') :
    Calls Try.prog 55 #[.pointer (some ⟨sb, 0, none⟩), .int .u8 5, .int .i64 l, .agg #[.int .u8 lo.tag, .int .u32 lo.to], .agg #[.int .u8 hi.tag, .int .u32 hi.to]] w fun e w' => e = .returned (.tuple #[.agg #[.int .u8 a, .int .u32 b], .int .u8 er]) ∧
      ∃ W W1, Keeps w W ∧ Upd F W W1 ∧ R W W1 ∧ Upd (fun k => w.heap.size ≤ k ∧ k < W.heap.size) W1 w' := by
  have HF := Lib.hid hf
  have nF : ∀ k, w.heap.size ≤ k → ¬ F k := fun k hk h => by have := hlt k h; omega
  have n2 := nF (w.heap.size + 2) (by omega)
  clear hf hlt nF
  go_enter Try.func55, Try.ntmps55
  go_wp2_with (go_at_call 19; refine (HF.out _ (by (repeat (first | with_reducible exact Keeps.refl _ | with_reducible assumption | with_reducible refine Keeps.alloc ?_ _ | with_reducible refine Keeps.drewN ?_ _ | with_reducible refine Keeps.drew ?_ | refine Keeps.setCell ?_ (by dsimp only; omega) _ | with_reducible refine Keeps.trans ?_ (by assumption))))).mono ?_; rintro e w3 ⟨rfl, hu, hR⟩; have hs3 := hu.size; (try simp only [World.size_alloc, World.size_setCell, World.size_drew] at hs3); have v0 := hu.cell (a := ⟨w.heap.size + 2, 0, none⟩) n2 (v := .int .u8 0) (by simp [go_sem]); have v1 := hu.cell (a := ⟨w.heap.size + 2, 1, none⟩) n2 (v := .int .u32 0) (by simp [go_sem]); have vf := fun o : Nat => hu.frozen (a := ⟨w.heap.size + 2, o, none⟩) (by simp [go_sem]) n2 (by simp [go_sem]); have hv2 : w.heap.size + 2 < w3.heap.size := (by omega))
  all_goals refine bodyPost_ret (v := .tuple #[.agg #[.int .u8 a, .int .u32 b], .int .u8 er]) (by simp [results, Try.results55, go_sem, hv2, v0, v1]) rfl ⟨rfl, _, w3, by (repeat (first | with_reducible exact Keeps.refl _ | with_reducible assumption | with_reducible refine Keeps.alloc ?_ _ | with_reducible refine Keeps.drewN ?_ _ | with_reducible refine Keeps.drew ?_ | refine Keeps.setCell ?_ (by dsimp only; omega) _ | with_reducible refine Keeps.trans ?_ (by assumption))), hu, hR, ?_⟩
  all_goals (try simp only [World.size_alloc, World.size_setCell, World.size_drew])
  all_goals (repeat (first | with_reducible exact Upd.refl _ _ | exact Upd.mono hu4 (fun k _ hk => ⟨hk.1, by (try simp only [World.size_alloc, World.size_setCell, World.size_drew]); have := hk.2; omega⟩) | refine Upd.setCell ?_ (Or.inl (by dsimp only; omega)) _ | refine Upd.setCell ?_ (Or.inr (by dsimp only; omega)) _ | with_reducible refine Upd.drewN ?_ _ | with_reducible refine Upd.drew ?_ | with_reducible refine Upd.alloc ?_ _))

set_option maxRecDepth 100000 in
theorem kmake_no (sb : Nat) (f l : Int) (lo hi : Edge) (w : World) (hsb : sb < w.heap.size) (h1 : f ≠ 1) (h2 : f ≠ 2) (h3 : f ≠ 3) (h4 : f ≠ 4) (h5 : f ≠ 5) :
    Calls Try.prog 55 #[.pointer (some ⟨sb, 0, none⟩), .int .u8 f, .int .i64 l, .agg #[.int .u8 lo.tag, .int .u32 lo.to], .agg #[.int .u8 hi.tag, .int .u32 hi.to]] w fun e w' => e = .returned (.tuple #[.agg #[.int .u8 0, .int .u32 0], .int .u8 4]) ∧ Keeps w w' := by
  have g1 : (f == 1) = false := by simp [h1]
  have g2 : (f == 2) = false := by simp [h2]
  have g3 : (f == 3) = false := by simp [h3]
  have g4 : (f == 4) = false := by simp [h4]
  have g5 : (f == 5) = false := by simp [h5]
  clear h1 h2 h3 h4 h5
  go_enter Try.func55, Try.ntmps55
  go_wp2
  all_goals refine bodyPost_ret (v := .tuple #[.agg #[.int .u8 0, .int .u32 0], .int .u8 4]) (by simp [results, Try.results55, go_sem]) rfl ⟨rfl, by (repeat (first | with_reducible exact Keeps.refl _ | with_reducible assumption | with_reducible refine Keeps.alloc ?_ _ | with_reducible refine Keeps.drewN ?_ _ | with_reducible refine Keeps.drew ?_ | refine Keeps.setCell ?_ (by dsimp only; omega) _ | with_reducible refine Keeps.trans ?_ (by assumption)))⟩

theorem canon_make {F : Nat → Prop} {w : World} {sb : Nat} {M : St} (h : StoreRep F w sb M) (f l : Int) (lo hi : Edge) (hlo : lo.ok) (hhi : hi.ok) :
    Calls Try.prog 55 #[.pointer (some ⟨sb, 0, none⟩), .int .u8 f, .int .i64 l, .agg #[.int .u8 lo.tag, .int .u32 lo.to], .agg #[.int .u8 hi.tag, .int .u32 hi.to]] w fun r w' =>
      r = .returned (.tuple #[.agg #[.int .u8 (kE M f (kAct M f l lo hi)).tag, .int .u32 (kE M f (kAct M f l lo hi)).to], .int .u8 (actErr M (kAct M f l lo hi))]) ∧ Upd F w w' ∧ StoreRep (Grow F w w') w' sb (actSt M (kAct M f l lo hi)) := by
  by_cases f1 : f = 1
  · subst f1
    have e1 : kAct M 1 l lo hi = makeAct M 1 l lo hi (bRest M l lo hi) := rfl
    have e2 : kE M 1 (kAct M 1 l lo hi) = actE0 M (makeAct M 1 l lo hi (bRest M l lo hi)) := by rw [e1]; rfl
    rw [e2, e1]
    refine (kmake_b (fun W W1 => StoreRep (Grow F W W1) W1 sb (actSt M (makeAct M 1 l lo hi (bRest M l lo hi)))) sb l _ _ _ lo hi w h.pos h.lt (fun W hW => bdd_make (h.keeps hW) l lo hi hlo hhi)).mono ?_
    rintro e w' ⟨rfl, W, W1, q1, q2, q3, q4⟩
    exact ⟨rfl, q3.after h.lt q1 q2 q4⟩
  by_cases f2 : f = 2
  · subst f2
    have e1 : kAct M 2 l lo hi = makeAct M 2 l lo hi (zRest M l lo hi) := rfl
    have e2 : kE M 2 (kAct M 2 l lo hi) = actE0 M (makeAct M 2 l lo hi (zRest M l lo hi)) := by rw [e1]; rfl
    rw [e2, e1]
    refine (kmake_z (fun W W1 => StoreRep (Grow F W W1) W1 sb (actSt M (makeAct M 2 l lo hi (zRest M l lo hi)))) sb l _ _ _ lo hi w h.pos h.lt (fun W hW => zdd_make (h.keeps hW) l lo hi hlo hhi)).mono ?_
    rintro e w' ⟨rfl, W, W1, q1, q2, q3, q4⟩
    exact ⟨rfl, q3.after h.lt q1 q2 q4⟩
  by_cases f3 : f = 3
  · subst f3
    have e1 : kAct M 3 l lo hi = makeAct M 3 l lo hi (cRest M l lo hi) := rfl
    have e2 : kE M 3 (kAct M 3 l lo hi) = actE0 M (makeAct M 3 l lo hi (cRest M l lo hi)) := by rw [e1]; rfl
    rw [e2, e1]
    refine (kmake_c (fun W W1 => StoreRep (Grow F W W1) W1 sb (actSt M (makeAct M 3 l lo hi (cRest M l lo hi)))) sb l _ _ _ lo hi w h.pos h.lt (fun W hW => cbdd_make (h.keeps hW) l lo hi hlo hhi)).mono ?_
    rintro e w' ⟨rfl, W, W1, q1, q2, q3, q4⟩
    exact ⟨rfl, q3.after h.lt q1 q2 q4⟩
  by_cases f4 : f = 4
  · subst f4
    have e1 : kAct M 4 l lo hi = makeAct M 4 l lo hi (qRest M l lo hi) := rfl
    have e2 : kE M 4 (kAct M 4 l lo hi) = actE0 M (makeAct M 4 l lo hi (qRest M l lo hi)) := by rw [e1]; rfl
    rw [e2, e1]
    refine (kmake_q (fun W W1 => StoreRep (Grow F W W1) W1 sb (actSt M (makeAct M 4 l lo hi (qRest M l lo hi)))) sb l _ _ _ lo hi w h.pos h.lt (fun W hW => czdd_make (h.keeps hW) l lo hi hlo hhi)).mono ?_
    rintro e w' ⟨rfl, W, W1, q1, q2, q3, q4⟩
    exact ⟨rfl, q3.after h.lt q1 q2 q4⟩
  by_cases f5 : f = 5
  · subst f5
    have e1 : kAct M 5 l lo hi = tAct M l lo hi := rfl
    have e2 : kE M 5 (kAct M 5 l lo hi) = actE M (tAct M l lo hi) := by rw [e1]; rfl
    rw [e2, e1]
    refine (kmake_t (fun W W1 => StoreRep (Grow F W W1) W1 sb (actSt M (tAct M l lo hi))) sb l _ _ _ lo hi w h.pos h.lt (fun W hW => tbdd_make (h.keeps hW) l lo hi hlo hhi)).mono ?_
    rintro e w' ⟨rfl, W, W1, q1, q2, q3, q4⟩
    exact ⟨rfl, q3.after h.lt q1 q2 q4⟩
  have e1 : kAct M f l lo hi = .inl (⟨0, 0⟩, 4) := by unfold kAct; rw [if_neg f1, if_neg f2, if_neg f3, if_neg f4, if_neg f5]
  have e2 : kE M f (kAct M f l lo hi) = ⟨0, 0⟩ := by rw [e1]; unfold kE; split <;> rfl
  rw [e2, e1]
  exact (kmake_no sb f l lo hi w h.pos f1 f2 f3 f4 f5).mono fun r w' hr => ⟨hr.1, h.stay hr.2⟩

end Go.Proofs.Ytimffidpbcflaaa

namespace Go.Proofs.Ytimffidpbcflaaa
set_option linter.unusedSimpArgs false
set_option linter.unusedVariables false
set_option maxHeartbeats 600000
open Go.RowKit

theorem StoreRep.few {F : Nat → Prop} {w : World} {sb : Nat} {M : St} (h : StoreRep F w sb M) : M.cs.length ≤ 1048576 := by
  obtain ⟨⟨ab, ib, ts, Fa, Fi, h1, h2, -⟩, -⟩ := h
  exact h2.few

theorem StoreRep.findId {F : Nat → Prop} {w : World} {sb : Nat} {M : St} (h : StoreRep F w sb M) (r : Rec) : 0 ≤ M.findId r ∧ M.findId r ≤ 1048578 := by
  have hf := h.few
  unfold St.findId
  split
  · rename_i id hi
    have hl := look_some (idOf_look hi)
    omega
  · split
    · omega
    · split
      · omega
      · have := putId_range h.wf.gone
        omega

theorem StoreRep.foundE {F : Nat → Prop} {w : World} {sb : Nat} {M : St} (h : StoreRep F w sb M) (t : Int) (ht : 0 ≤ t ∧ t ≤ 255) (r : Rec) : (Go.Proofs.Ytimffidpbcflaaa.foundE M t r).ok := by
  have := h.findId r
  unfold Go.Proofs.Ytimffidpbcflaaa.foundE
  split
  · exact ⟨ht, ⟨this.1, by show M.findId r ≤ 4294967295; omega⟩⟩
  · exact ⟨by decide, by decide⟩

theorem zero_ok : (⟨0, 0⟩ : Edge).ok := ⟨by decide, by decide⟩

theorem act0_ok {F : Nat → Prop} {w : World} {sb : Nat} {M : St} (h : StoreRep F w sb M) (a : (Edge × Int) ⊕ Rec) (hl : ∀ x, a = .inl x → x.1.ok) : (actE0 M a).ok := by
  cases a with
  | inl x => exact hl x rfl
  | inr r => exact h.foundE 0 (by decide) r

theorem makeAct_inl {M : St} {f l : Int} {lo hi : Edge} {rest : (Edge × Int) ⊕ Rec} (hr : ∀ x, rest = .inl x → x.1.ok) : ∀ x, makeAct M f l lo hi rest = .inl x → x.1.ok := by
  intro x hx
  unfold makeAct at hx
  split at hx
  · cases hx; exact zero_ok
  · split at hx
    · cases hx; exact zero_ok
    · exact hr x hx

theorem kE_ok {F : Nat → Prop} {w : World} {sb : Nat} {M : St} (h : StoreRep F w sb M) (f l : Int) (lo hi : Edge) (hlo : lo.ok) (h0 : 0 ≤ l) (h1 : l ≤ 16) : (kE M f (kAct M f l lo hi)).ok := by
  have hb : ∀ x, bRest M l lo hi = .inl x → x.1.ok := by
    intro x hx; unfold bRest at hx; split at hx
    · cases hx; exact hlo
    · cases hx
  have hz : ∀ x, zRest M l lo hi = .inl x → x.1.ok := by
    intro x hx; unfold zRest at hx; split at hx
    · cases hx; exact hlo
    · cases hx
  have hc : ∀ x, cRest M l lo hi = .inl x → x.1.ok := by
    intro x hx; unfold cRest at hx; split at hx
    · cases hx; exact hlo
    · (repeat' split at hx) <;> cases hx
  have hq : ∀ x, qRest M l lo hi = .inl x → x.1.ok := by
    intro x hx; unfold qRest at hx; split at hx
    · cases hx; exact hlo
    · (repeat' split at hx) <;> cases hx
  by_cases f5 : f = 5
  · subst f5
    show (actE M (tAct M l lo hi)).ok
    unfold tAct
    split
    · exact zero_ok
    · split
      · exact zero_ok
      · split
        · exact hlo
        · split
          · exact ⟨⟨h0, by show l ≤ 255; omega⟩, hlo.2⟩
          · exact h.foundE _ ⟨h0, by show l ≤ 255; omega⟩ _
  · have e : kE M f (kAct M f l lo hi) = actE0 M (kAct M f l lo hi) := if_neg f5
    rw [e]
    refine act0_ok h _ ?_
    intro x hx
    unfold kAct at hx
    split at hx
    · exact makeAct_inl hb x hx
    · split at hx
      · exact makeAct_inl hz x hx
      · split at hx
        · exact makeAct_inl hc x hx
        · split at hx
          · exact makeAct_inl hq x hx
          · cases hx
            exact zero_ok

/-- Is a level's bit on? -/
def onB (x k : Int) : Bool := bits BinOp.and IntKind.u16 (x / 2 ^ k.toNat) 1 == 1

def lowE (x k : Int) (v : Edge) : Edge := if onB x k then ⟨0, 0⟩ else v

/-- A cube, level by level from below: the edge, the error, the state. -/
def cubeGo (f l ones noughts : Int) : Nat → St → Edge → Edge × Int × St
  | 0, M, v => (v, 0, M)
  | d + 1, M, v =>
    if actErr M (kAct M f (l + d) (lowE ones (l + d) v) (lowE noughts (l + d) v)) = 0 then cubeGo f l ones noughts d (actSt M (kAct M f (l + d) (lowE ones (l + d) v) (lowE noughts (l + d) v))) (kE M f (kAct M f (l + d) (lowE ones (l + d) v) (lowE noughts (l + d) v)))
    else (⟨0, 0⟩, actErr M (kAct M f (l + d) (lowE ones (l + d) v) (lowE noughts (l + d) v)), actSt M (kAct M f (l + d) (lowE ones (l + d) v) (lowE noughts (l + d) v)))

theorem cubeGo_ok {f l ones noughts k : Int} {M : St} {v : Edge} (h : l ≤ k) {a : (Edge × Int) ⊕ Rec} (ha : kAct M f k (lowE ones k v) (lowE noughts k v) = a) (h0 : actErr M a = 0) :
    cubeGo f l ones noughts (k - l + 1).toNat M v = cubeGo f l ones noughts (k - 1 - l + 1).toNat (actSt M a) (kE M f a) := by
  obtain ⟨d, hd⟩ : ∃ d : Nat, k = l + d := ⟨(k - l).toNat, by omega⟩
  subst hd
  subst ha
  rw [show (l + (d : Int) - l + 1).toNat = d + 1 by omega, show (l + (d : Int) - 1 - l + 1).toNat = d by omega]
  show (if _ then _ else _) = _
  rw [if_pos h0]

theorem cubeGo_bad {f l ones noughts k : Int} {M : St} {v : Edge} (h : l ≤ k) {a : (Edge × Int) ⊕ Rec} (ha : kAct M f k (lowE ones k v) (lowE noughts k v) = a) (h0 : ¬ actErr M a = 0) :
    cubeGo f l ones noughts (k - l + 1).toNat M v = (⟨0, 0⟩, actErr M a, actSt M a) := by
  obtain ⟨d, hd⟩ : ∃ d : Nat, k = l + d := ⟨(k - l).toNat, by omega⟩
  subst hd
  subst ha
  rw [show (l + (d : Int) - l + 1).toNat = d + 1 by omega]
  show (if _ then _ else _) = _
  rw [if_neg h0]

/-- The edge to one. -/
def oneE (f n : Int) : Edge := if f = 5 then ⟨n, 1⟩ else ⟨0, 1⟩

set_option maxRecDepth 100000 in
theorem one_calls (f n : Int) (w : World) (hf : isFormB f = true) (hn0 : 0 ≤ n) (hn : n ≤ 16) : Calls Try.prog 95 #[.int .u8 f, .int .i64 n] w fun e w' => e = .returned (.agg #[.int .u8 (oneE f n).tag, .int .u32 (oneE f n).to]) ∧ Keeps w w' := by
  have h2 : mayB n = true := by simp [mayB, hn0, hn]
  by_cases h5 : f = 5
  · subst h5
    go_enter Try.func95, Try.ntmps95
    go_wp2_with (first | (go_at_call 94; refine (isForm_calls _ _).mono ?_; rintro e w' ⟨rfl, rfl⟩) | (go_at_call 100; refine (may_calls _ _).mono ?_; rintro e w' ⟨rfl, rfl⟩) | fail)
    all_goals refine bodyPost_ret (v := .agg #[.int .u8 n, .int .u32 1]) (by simp [results, Try.results95, go_sem]) rfl ⟨rfl, by (repeat (first | with_reducible exact Keeps.refl _ | with_reducible assumption | with_reducible refine Keeps.alloc ?_ _ | with_reducible refine Keeps.drewN ?_ _ | with_reducible refine Keeps.drew ?_ | refine Keeps.setCell ?_ (by dsimp only; omega) _ | with_reducible refine Keeps.trans ?_ (by assumption)))⟩
  · have h6 : (f == 5) = false := by simp [h5]
    have e : oneE f n = ⟨0, 1⟩ := if_neg h5
    rw [e]
    go_enter Try.func95, Try.ntmps95
    go_wp2_with (first | (go_at_call 94; refine (isForm_calls _ _).mono ?_; rintro e w' ⟨rfl, rfl⟩) | (go_at_call 100; refine (may_calls _ _).mono ?_; rintro e w' ⟨rfl, rfl⟩) | fail)
    all_goals refine bodyPost_ret (v := .agg #[.int .u8 0, .int .u32 1]) (by simp [results, Try.results95, go_sem]) rfl ⟨rfl, by (repeat (first | with_reducible exact Keeps.refl _ | with_reducible assumption | with_reducible refine Keeps.alloc ?_ _ | with_reducible refine Keeps.drewN ?_ _ | with_reducible refine Keeps.drew ?_ | refine Keeps.setCell ?_ (by dsimp only; omega) _ | with_reducible refine Keeps.trans ?_ (by assumption)))⟩

/-- What holds at each level. -/
structure CubeInv (F : Nat → Prop) (w wr : World) (sb eb : Nat) (M : St) (v : Edge) (G : Nat → Prop) : Prop where
  upd : Upd F w wr
  rep : StoreRep G wr sb M
  sub : ∀ j, G j → F j ∨ (w.heap.size ≤ j ∧ j ≠ w.heap.size ∧ j ≠ eb)
  e0 : wr.cell? ⟨eb, 0, none⟩ = some (.int .u8 v.tag)
  e1 : wr.cell? ⟨eb, 1, none⟩ = some (.int .u32 v.to)
  ef : ∀ o, wr.frozen? ⟨eb, o, none⟩ = false
  z0 : wr.cell? ⟨w.heap.size, 0, none⟩ = some (.int .u8 0)
  z1 : wr.cell? ⟨w.heap.size, 1, none⟩ = some (.int .u32 0)
  zf : ∀ o, wr.frozen? ⟨w.heap.size, o, none⟩ = false
  se : w.heap.size < eb
  sz : eb < wr.heap.size

/-- Such a world behind a call that turns the store's blocks. -/
theorem CubeInv.call {F G : Nat → Prop} {w wr W w2 : World} {sb eb : Nat} {M M2 : St} {v : Edge} (h : CubeInv F w wr sb eb M v G) (hlt : ∀ k, F k → k < w.heap.size) (hk : Keeps wr W) (hu : Upd G W w2) (hS : StoreRep (Grow G W w2) w2 sb M2) :
    CubeInv F w w2 sb eb M2 v (Grow G W w2) := by
  have hse := h.se
  have hsz := h.sz
  have s1 := hk.size
  have s2 := hu.size
  have nG : ∀ j, j = w.heap.size ∨ j = eb → ¬ G j := by
    intro j hj hg
    rcases h.sub j hg with h1 | h1
    · have := hlt j h1
      omega
    · omega
  have hub : Upd G wr w2 := (hk.upd G).trans' hu
  have hU : Upd F w w2 := by
    refine ⟨hub.os.trans h.upd.os, hub.tape.trans h.upd.tape, hub.output.trans h.upd.output, Nat.le_trans h.upd.size hub.size, fun k hk' hf => ?_⟩
    have : ¬ G k := fun hg => by
      rcases h.sub k hg with h1 | h1
      · exact hf h1
      · omega
    rw [hub.block k (Nat.lt_of_lt_of_le hk' h.upd.size) this, h.upd.block k hk' hf]
  refine ⟨hU, hS, ?_, hub.cell (nG eb (.inr rfl)) h.e0, hub.cell (nG eb (.inr rfl)) h.e1, fun o => hub.frozen (a := ⟨eb, o, none⟩) hsz (nG eb (.inr rfl)) (h.ef o), hub.cell (nG _ (.inl rfl)) h.z0, hub.cell (nG _ (.inl rfl)) h.z1,
    fun o => hub.frozen (a := ⟨w.heap.size, o, none⟩) (by show w.heap.size < wr.heap.size; omega) (nG _ (.inl rfl)) (h.zf o), hse, by omega⟩
  intro j hj
  rcases hj with hj | hj
  · exact h.sub j hj
  · right
    omega

/-- .. behind the writing of the edge. -/
theorem CubeInv.put {F G : Nat → Prop} {w wr : World} {sb eb : Nat} {M : St} {v v2 : Edge} (h : CubeInv F w wr sb eb M v G) (hlt : ∀ k, F k → k < w.heap.size) (o : Obj) :
    CubeInv F w (((wr.setCell ⟨eb, 0, none⟩ (.int .u8 v2.tag)).setCell ⟨eb, 1, none⟩ (.int .u32 v2.to)).alloc o) sb eb M v2 G := by
  have hse := h.se
  have hsz := h.sz
  have n1 : ¬ eb = wr.heap.size := by omega
  have n2 : ¬ w.heap.size = wr.heap.size := by omega
  have n3 : ¬ w.heap.size = eb := by omega
  have n4 : w.heap.size < wr.heap.size := by omega
  have c0 := h.e0
  have c1 := h.e1
  have d0 := h.z0
  have d1 := h.z1
  refine ⟨?_, ?_, h.sub, ?_, ?_, ?_, ?_, ?_, ?_, hse, ?_⟩
  · exact ((h.upd.setCell (Or.inr (by show w.heap.size ≤ eb; omega)) _).setCell (Or.inr (by show w.heap.size ≤ eb; omega)) _).alloc o
  · refine h.rep.keep (G := fun k => k = eb) ((((Upd.refl (fun k => k = eb) wr).setCell (p := ⟨eb, 0, none⟩) (Or.inl rfl) _).setCell (p := ⟨eb, 1, none⟩) (Or.inl rfl) _).alloc o) ?_
    rintro k hk' rfl
    rcases h.sub _ hk' with h1 | h1
    · have := hlt _ h1
      omega
    · omega
  · simp [go_sem, c0, c1, hsz, n1]
  · simp [go_sem, c0, c1, hsz, n1]
  · intro q
    rw [World.frozen?_alloc_old _ _ _ (by simp only [World.size_setCell]; show eb ≠ wr.heap.size; omega), World.frozen?_setCell, World.frozen?_setCell]
    exact h.ef q
  · simp [go_sem, d0, n3, n4, n2]
  · simp [go_sem, d1, n3, n4, n2]
  · intro q
    rw [World.frozen?_alloc_old _ _ _ (by simp only [World.size_setCell]; show w.heap.size ≠ wr.heap.size; omega), World.frozen?_setCell, World.frozen?_setCell]
    exact h.zf q
  · simp only [World.size_setCell, World.size_alloc]
    omega

/-- .. and at the end, when the result has been written. -/
theorem CubeInv.done {F G : Nat → Prop} {w wr w' : World} {sb eb : Nat} {M : St} {v : Edge} (h : CubeInv F w wr sb eb M v G) (hlt : ∀ k, F k → k < w.heap.size) (hu : Upd (fun k => k = w.heap.size) wr w') : Upd F w w' ∧ StoreRep (Grow F w w') w' sb M := by
  have hse := h.se
  have hsz := h.sz
  have s1 := hu.size
  have hnG : ∀ k, G k → ¬ k = w.heap.size := by
    rintro k hk rfl
    rcases h.sub _ hk with h1 | h1
    · have := hlt _ h1
      omega
    · omega
  have hr := h.rep.keep hu hnG
  refine ⟨⟨hu.os.trans h.upd.os, hu.tape.trans h.upd.tape, hu.output.trans h.upd.output, Nat.le_trans h.upd.size s1, fun k hk hf => ?_⟩, hr.mono ?_ ?_⟩
  · rw [hu.block k (Nat.lt_of_lt_of_le hk h.upd.size) (by omega), h.upd.block k hk hf]
  · intro k hk
    rcases h.sub k hk with h1 | h1
    · exact .inl h1
    · exact .inr ⟨h1.1, hr.lt k hk⟩
  · intro k hk
    rcases hk with hk | hk
    · have := hlt k hk
      omega
    · exact hk.2

set_option maxRecDepth 100000 in
set_option maxHeartbeats 6000000 in
theorem cube_calls {F : Nat → Prop} {w : World} {sb : Nat} {M : St} (h : StoreRep F w sb M) (f l ones noughts : Int) (h0 : 0 ≤ l) (h1 : l ≤ M.n) (hf : isFormB f = true) (o1 : 0 ≤ ones) (o2 : ones ≤ 65535) (o3 : 0 ≤ noughts) (o4 : noughts ≤ 65535)
    (g1 : bits BinOp.or IntKind.u16 ones noughts % 4294967296 / 2 ^ M.n.toNat = 0) (g2 : (bits BinOp.and IntKind.u32 (bits BinOp.or IntKind.u16 ones noughts % 4294967296) ((2 ^ l.toNat - 1) % 4294967296) != 0) = false)
    (g3 : (bits BinOp.and IntKind.u16 ones noughts != 0) = false) :
    Calls Try.prog 57 #[.pointer (some ⟨sb, 0, none⟩), .int .u8 f, .int .i64 l, .int .u16 ones, .int .u16 noughts] w fun e w' =>
      e = .returned (.tuple #[.agg #[.int .u8 (cubeGo f l ones noughts (M.n - l).toNat M (oneE f M.n)).1.tag, .int .u32 (cubeGo f l ones noughts (M.n - l).toNat M (oneE f M.n)).1.to], .int .u8 (cubeGo f l ones noughts (M.n - l).toNat M (oneE f M.n)).2.1]) ∧ Upd F w w' ∧ StoreRep (Grow F w w') w' sb (cubeGo f l ones noughts (M.n - l).toNat M (oneE f M.n)).2.2 := by
  have hn := h.wf.n16
  have hn0 := h.wf.n0
  have hlt := h.lt
  have hsb := h.pos
  have hv := fun (W : World) (hW : Keeps w W) => store_vars (h.keeps hW)
  have H := Lib.hid h
  have HV := Lib.hid hv
  have HL := Lib.hid hlt
  have G1 := Lib.hid g1
  clear h hv hlt
  go_enter Try.func57, Try.ntmps57
  go_wp2_with (first | (go_at_call 94; refine (isForm_calls _ _).mono ?_; rintro e w' ⟨rfl, rfl⟩) | (go_at_call 47; refine (HV.out _ (by (repeat (first | with_reducible exact Keeps.refl _ | with_reducible assumption | with_reducible refine Keeps.alloc ?_ _ | with_reducible refine Keeps.drewN ?_ _ | with_reducible refine Keeps.drew ?_ | refine Keeps.setCell ?_ (by dsimp only; omega) _ | with_reducible refine Keeps.trans ?_ (by assumption))))).mono ?_; rintro e w' ⟨rfl, rfl⟩) | (go_at_call 95; refine (one_calls f M.n _ hf hn0 hn).mono ?_; rintro e w1 ⟨rfl, hb⟩; have x0 := hb.cell (a := ⟨w.heap.size, 0, none⟩) (v := .int .u8 0) (by simp [go_sem]); have x1 := hb.cell (a := ⟨w.heap.size, 1, none⟩) (v := .int .u32 0) (by simp [go_sem]); have xf := fun o : Nat => hb.frz (a := ⟨w.heap.size, o, none⟩) (by simp [go_sem]) (by simp [go_sem]); have hsz := hb.size; simp only [World.size_alloc] at hsz; have hk : Keeps w w1 := (by (repeat (first | with_reducible exact Keeps.refl _ | with_reducible assumption | with_reducible refine Keeps.alloc ?_ _ | with_reducible refine Keeps.drewN ?_ _ | with_reducible refine Keeps.drew ?_ | refine Keeps.setCell ?_ (by dsimp only; omega) _ | with_reducible refine Keeps.trans ?_ (by assumption))))) | fail)
  have hI0 : CubeInv F w (w1.alloc (.cells #[.int .u8 (oneE f M.n).tag, .int .u32 (oneE f M.n).to] 25)) sb w1.heap.size M (oneE f M.n) F := by
    have hle : w.heap.size < w1.heap.size := by omega
    refine ⟨(hk.alloc _).upd F, H.out.keeps (hk.alloc _), fun j hj => .inl hj, by simp [go_sem], by simp [go_sem], fun o => by simp [go_sem], by simp [go_sem, x0, hle, Nat.ne_of_lt hle], by simp [go_sem, x1, hle, Nat.ne_of_lt hle], fun o => ?_, hle, by simp⟩
    rw [World.frozen?_alloc_old _ _ _ (by show w.heap.size ≠ w1.heap.size; omega)]
    exact xf o
  have hv0 : (oneE f M.n).ok := by
    unfold oneE
    split
    · exact ⟨⟨hn0, by show M.n ≤ 255; omega⟩, ⟨by show (0 : Int) ≤ 1; decide, by show (1 : Int) ≤ 4294967295; decide⟩⟩
    · exact ⟨by decide, by decide⟩
  clear hb x0 x1 xf
  go_loopg [14] (M.n - l).toNat (fun gk i wr => ∃ (k : Int) (M' : St) (v : Edge) (G : Nat → Prop), (gk : Int) = k - l + 1 ∧ i = .int .i64 k ∧ l - 1 ≤ k ∧ k < M.n ∧ v.ok ∧ CubeInv F w wr sb w1.heap.size M' v G ∧ cubeGo f l ones noughts (k - l + 1).toNat M' v = cubeGo f l ones noughts (M.n - l).toNat M (oneE f M.n))
  case atStart => exact ⟨M.n - 1, _, _, _, by omega, by go_num, by omega, by omega, hv0, hI0, by rw [show (M.n - 1 - l + 1).toNat = (M.n - l).toNat by omega]⟩
  case round =>
    obtain ⟨k, M', v, G, hgk, rfl, hk1, hk2, hv, hI, heq⟩ := hrel
    by_cases hlk : l ≤ k
    · rcases bool_cases (onB ones k) with b1 | b1 <;> rcases bool_cases (onB noughts k) with b2 | b2
      · obtain ⟨A, hA⟩ : ∃ A, A = (kAct M' f k v v) := ⟨_, rfl⟩
        have hact : kAct M' f k (lowE ones k v) (lowE noughts k v) = A := by rw [hA]; unfold lowE; rw [b1, b2]; rfl
        have hEo : (kE M' f A).ok := by rw [hA]; exact kE_ok hI.rep f k _ _ hv (by omega) (by omega)
        have her := kErr M' f k v v
        rw [← hA] at her
        obtain ⟨er1, er2⟩ := her
        have y0 := hI.e0
        have y1 := hI.e1
        have yz := hI.sz
        have x0 := hI.z0
        have x1 := hI.z1
        have xf := hI.zf
        have hse := hI.se
        have HI' := Lib.hid hI
        have HQ := Lib.hid heq
        have HA := Lib.hid hA
        have HC := Lib.hid hact
        have hb1 : (bits BinOp.and IntKind.u16 (ones / 2 ^ k.toNat) 1 == 1) = false := b1
        have hb2 : (bits BinOp.and IntKind.u16 (noughts / 2 ^ k.toNat) 1 == 1) = false := b2
        clear hI heq hA hact b1 b2
        go_wp2_with fail
        go_region
        all_goals
          go_wp2_with fail
          have hcm := fun (W : World) (hW : Keeps wr W) => canon_make (HI'.out.rep.keeps hW) f k v v hv hv
          rw [← HA.out] at hcm
          refine (hcm _ (by (repeat (first | with_reducible exact Keeps.refl _ | with_reducible assumption | with_reducible refine Keeps.alloc ?_ _ | with_reducible refine Keeps.drewN ?_ _ | with_reducible refine Keeps.drew ?_ | refine Keeps.setCell ?_ (by dsimp only; omega) _ | with_reducible refine Keeps.trans ?_ (by assumption))))).mono ?_
          rintro e w2 ⟨rfl, hu, hS2⟩
          clear hcm
          have hst := fun hkW => CubeInv.call HI'.out HL.out hkW hu hS2
          have hst2 := hst (by (repeat (first | with_reducible exact Keeps.refl _ | with_reducible assumption | with_reducible refine Keeps.alloc ?_ _ | with_reducible refine Keeps.drewN ?_ _ | with_reducible refine Keeps.drew ?_ | refine Keeps.setCell ?_ (by dsimp only; omega) _ | with_reducible refine Keeps.trans ?_ (by assumption))))
          clear hst hu hS2 y0 y1 yz x0 x1 xf
          have y0 := hst2.e0
          have y1 := hst2.e1
          have yf := hst2.ef
          have yz := hst2.sz
          have x0 := hst2.z0
          have x1 := hst2.z1
          have xf := hst2.zf
          have xz : w.heap.size < w2.heap.size := by omega
          have HS2 := Lib.hid hst2
          clear hst2
          go_wp2_with fail
          all_goals first
            | (have hz : actErr M' A = 0 := (by have hh : (actErr M' A != 0) = false := (by assumption); simpa using hh)
               have HP := Lib.hid (HS2.out.put (v2 := kE M' f A) HL.out (.cells #[.int .u8 (kE M' f A).tag, .int .u32 (kE M' f A).to] 25))
               go_roundg (gk - 1)
               case rel => exact ⟨k - 1, _, _, _, by omega, by go_num, by omega, by omega, hEo, HP.out, by rw [← HQ.out, cubeGo_ok hlk HC.out hz]⟩
               case measure => omega)
            | (have hz : ¬ actErr M' A = 0 := (by have hh : (actErr M' A != 0) = true := (by assumption); simpa using hh)
               have hb := HQ.out.symm.trans (cubeGo_bad hlk HC.out hz)
               rw [hb]
               refine bodyPost_ret (v := .tuple #[.agg #[.int .u8 0, .int .u32 0], .int .u8 (actErr M' A)]) (by simp [results, Try.results57, go_sem, xz, x0, x1]) rfl ⟨rfl, HS2.out.done HL.out ?_⟩
               exact (((Upd.refl (fun k => k = w.heap.size) _).setCell (p := ⟨w.heap.size, 0, none⟩) (Or.inl rfl) _).setCell (p := ⟨w.heap.size, 1, none⟩) (Or.inl rfl) _).alloc _)
      · obtain ⟨A, hA⟩ : ∃ A, A = (kAct M' f k v ⟨0, 0⟩) := ⟨_, rfl⟩
        have hact : kAct M' f k (lowE ones k v) (lowE noughts k v) = A := by rw [hA]; unfold lowE; rw [b1, b2]; rfl
        have hEo : (kE M' f A).ok := by rw [hA]; exact kE_ok hI.rep f k _ _ hv (by omega) (by omega)
        have her := kErr M' f k v ⟨0, 0⟩
        rw [← hA] at her
        obtain ⟨er1, er2⟩ := her
        have y0 := hI.e0
        have y1 := hI.e1
        have yz := hI.sz
        have x0 := hI.z0
        have x1 := hI.z1
        have xf := hI.zf
        have hse := hI.se
        have HI' := Lib.hid hI
        have HQ := Lib.hid heq
        have HA := Lib.hid hA
        have HC := Lib.hid hact
        have hb1 : (bits BinOp.and IntKind.u16 (ones / 2 ^ k.toNat) 1 == 1) = false := b1
        have hb2 : (bits BinOp.and IntKind.u16 (noughts / 2 ^ k.toNat) 1 == 1) = true := b2
        clear hI heq hA hact b1 b2
        go_wp2_with fail
        go_region
        all_goals
          go_wp2_with fail
          have hcm := fun (W : World) (hW : Keeps wr W) => canon_make (HI'.out.rep.keeps hW) f k v ⟨0, 0⟩ hv zero_ok
          rw [← HA.out] at hcm
          refine (hcm _ (by (repeat (first | with_reducible exact Keeps.refl _ | with_reducible assumption | with_reducible refine Keeps.alloc ?_ _ | with_reducible refine Keeps.drewN ?_ _ | with_reducible refine Keeps.drew ?_ | refine Keeps.setCell ?_ (by dsimp only; omega) _ | with_reducible refine Keeps.trans ?_ (by assumption))))).mono ?_
          rintro e w2 ⟨rfl, hu, hS2⟩
          clear hcm
          have hst := fun hkW => CubeInv.call HI'.out HL.out hkW hu hS2
          have hst2 := hst (by (repeat (first | with_reducible exact Keeps.refl _ | with_reducible assumption | with_reducible refine Keeps.alloc ?_ _ | with_reducible refine Keeps.drewN ?_ _ | with_reducible refine Keeps.drew ?_ | refine Keeps.setCell ?_ (by dsimp only; omega) _ | with_reducible refine Keeps.trans ?_ (by assumption))))
          clear hst hu hS2 y0 y1 yz x0 x1 xf
          have y0 := hst2.e0
          have y1 := hst2.e1
          have yf := hst2.ef
          have yz := hst2.sz
          have x0 := hst2.z0
          have x1 := hst2.z1
          have xf := hst2.zf
          have xz : w.heap.size < w2.heap.size := by omega
          have HS2 := Lib.hid hst2
          clear hst2
          go_wp2_with fail
          all_goals first
            | (have hz : actErr M' A = 0 := (by have hh : (actErr M' A != 0) = false := (by assumption); simpa using hh)
               have HP := Lib.hid (HS2.out.put (v2 := kE M' f A) HL.out (.cells #[.int .u8 (kE M' f A).tag, .int .u32 (kE M' f A).to] 25))
               go_roundg (gk - 1)
               case rel => exact ⟨k - 1, _, _, _, by omega, by go_num, by omega, by omega, hEo, HP.out, by rw [← HQ.out, cubeGo_ok hlk HC.out hz]⟩
               case measure => omega)
            | (have hz : ¬ actErr M' A = 0 := (by have hh : (actErr M' A != 0) = true := (by assumption); simpa using hh)
               have hb := HQ.out.symm.trans (cubeGo_bad hlk HC.out hz)
               rw [hb]
               refine bodyPost_ret (v := .tuple #[.agg #[.int .u8 0, .int .u32 0], .int .u8 (actErr M' A)]) (by simp [results, Try.results57, go_sem, xz, x0, x1]) rfl ⟨rfl, HS2.out.done HL.out ?_⟩
               exact (((Upd.refl (fun k => k = w.heap.size) _).setCell (p := ⟨w.heap.size, 0, none⟩) (Or.inl rfl) _).setCell (p := ⟨w.heap.size, 1, none⟩) (Or.inl rfl) _).alloc _)
      · obtain ⟨A, hA⟩ : ∃ A, A = (kAct M' f k ⟨0, 0⟩ v) := ⟨_, rfl⟩
        have hact : kAct M' f k (lowE ones k v) (lowE noughts k v) = A := by rw [hA]; unfold lowE; rw [b1, b2]; rfl
        have hEo : (kE M' f A).ok := by rw [hA]; exact kE_ok hI.rep f k _ _ zero_ok (by omega) (by omega)
        have her := kErr M' f k ⟨0, 0⟩ v
        rw [← hA] at her
        obtain ⟨er1, er2⟩ := her
        have y0 := hI.e0
        have y1 := hI.e1
        have yz := hI.sz
        have x0 := hI.z0
        have x1 := hI.z1
        have xf := hI.zf
        have hse := hI.se
        have HI' := Lib.hid hI
        have HQ := Lib.hid heq
        have HA := Lib.hid hA
        have HC := Lib.hid hact
        have hb1 : (bits BinOp.and IntKind.u16 (ones / 2 ^ k.toNat) 1 == 1) = true := b1
        have hb2 : (bits BinOp.and IntKind.u16 (noughts / 2 ^ k.toNat) 1 == 1) = false := b2
        clear hI heq hA hact b1 b2
        go_wp2_with fail
        go_region
        all_goals
          go_wp2_with fail
          have hcm := fun (W : World) (hW : Keeps wr W) => canon_make (HI'.out.rep.keeps hW) f k ⟨0, 0⟩ v zero_ok hv
          rw [← HA.out] at hcm
          refine (hcm _ (by (repeat (first | with_reducible exact Keeps.refl _ | with_reducible assumption | with_reducible refine Keeps.alloc ?_ _ | with_reducible refine Keeps.drewN ?_ _ | with_reducible refine Keeps.drew ?_ | refine Keeps.setCell ?_ (by dsimp only; omega) _ | with_reducible refine Keeps.trans ?_ (by assumption))))).mono ?_
          rintro e w2 ⟨rfl, hu, hS2⟩
          clear hcm
          have hst := fun hkW => CubeInv.call HI'.out HL.out hkW hu hS2
          have hst2 := hst (by (repeat (first | with_reducible exact Keeps.refl _ | with_reducible assumption | with_reducible refine Keeps.alloc ?_ _ | with_reducible refine Keeps.drewN ?_ _ | with_reducible refine Keeps.drew ?_ | refine Keeps.setCell ?_ (by dsimp only; omega) _ | with_reducible refine Keeps.trans ?_ (by assumption))))
          clear hst hu hS2 y0 y1 yz x0 x1 xf
          have y0 := hst2.e0
          have y1 := hst2.e1
          have yf := hst2.ef
          have yz := hst2.sz
          have x0 := hst2.z0
          have x1 := hst2.z1
          have xf := hst2.zf
          have xz : w.heap.size < w2.heap.size := by omega
          have HS2 := Lib.hid hst2
          clear hst2
          go_wp2_with fail
          all_goals first
            | (have hz : actErr M' A = 0 := (by have hh : (actErr M' A != 0) = false := (by assumption); simpa using hh)
               have HP := Lib.hid (HS2.out.put (v2 := kE M' f A) HL.out (.cells #[.int .u8 (kE M' f A).tag, .int .u32 (kE M' f A).to] 25))
               go_roundg (gk - 1)
               case rel => exact ⟨k - 1, _, _, _, by omega, by go_num, by omega, by omega, hEo, HP.out, by rw [← HQ.out, cubeGo_ok hlk HC.out hz]⟩
               case measure => omega)
            | (have hz : ¬ actErr M' A = 0 := (by have hh : (actErr M' A != 0) = true := (by assumption); simpa using hh)
               have hb := HQ.out.symm.trans (cubeGo_bad hlk HC.out hz)
               rw [hb]
               refine bodyPost_ret (v := .tuple #[.agg #[.int .u8 0, .int .u32 0], .int .u8 (actErr M' A)]) (by simp [results, Try.results57, go_sem, xz, x0, x1]) rfl ⟨rfl, HS2.out.done HL.out ?_⟩
               exact (((Upd.refl (fun k => k = w.heap.size) _).setCell (p := ⟨w.heap.size, 0, none⟩) (Or.inl rfl) _).setCell (p := ⟨w.heap.size, 1, none⟩) (Or.inl rfl) _).alloc _)
      · obtain ⟨A, hA⟩ : ∃ A, A = (kAct M' f k ⟨0, 0⟩ ⟨0, 0⟩) := ⟨_, rfl⟩
        have hact : kAct M' f k (lowE ones k v) (lowE noughts k v) = A := by rw [hA]; unfold lowE; rw [b1, b2]; rfl
        have hEo : (kE M' f A).ok := by rw [hA]; exact kE_ok hI.rep f k _ _ zero_ok (by omega) (by omega)
        have her := kErr M' f k ⟨0, 0⟩ ⟨0, 0⟩
        rw [← hA] at her
        obtain ⟨er1, er2⟩ := her
        have y0 := hI.e0
        have y1 := hI.e1
        have yz := hI.sz
        have x0 := hI.z0
        have x1 := hI.z1
        have xf := hI.zf
        have hse := hI.se
        have HI' := Lib.hid hI
        have HQ := Lib.hid heq
        have HA := Lib.hid hA
        have HC := Lib.hid hact
        have hb1 : (bits BinOp.and IntKind.u16 (ones / 2 ^ k.toNat) 1 == 1) = true := b1
        have hb2 : (bits BinOp.and IntKind.u16 (noughts / 2 ^ k.toNat) 1 == 1) = true := b2
        clear hI heq hA hact b1 b2
        go_wp2_with fail
        go_region
        all_goals
          go_wp2_with fail
          have hcm := fun (W : World) (hW : Keeps wr W) => canon_make (HI'.out.rep.keeps hW) f k ⟨0, 0⟩ ⟨0, 0⟩ zero_ok zero_ok
          rw [← HA.out] at hcm
          refine (hcm _ (by (repeat (first | with_reducible exact Keeps.refl _ | with_reducible assumption | with_reducible refine Keeps.alloc ?_ _ | with_reducible refine Keeps.drewN ?_ _ | with_reducible refine Keeps.drew ?_ | refine Keeps.setCell ?_ (by dsimp only; omega) _ | with_reducible refine Keeps.trans ?_ (by assumption))))).mono ?_
          rintro e w2 ⟨rfl, hu, hS2⟩
          clear hcm
          have hst := fun hkW => CubeInv.call HI'.out HL.out hkW hu hS2
          have hst2 := hst (by (repeat (first | with_reducible exact Keeps.refl _ | with_reducible assumption | with_reducible refine Keeps.alloc ?_ _ | with_reducible refine Keeps.drewN ?_ _ | with_reducible refine Keeps.drew ?_ | refine Keeps.setCell ?_ (by dsimp only; omega) _ | with_reducible refine Keeps.trans ?_ (by assumption))))
          clear hst hu hS2 y0 y1 yz x0 x1 xf
          have y0 := hst2.e0
          have y1 := hst2.e1
          have yf := hst2.ef
          have yz := hst2.sz
          have x0 := hst2.z0
          have x1 := hst2.z1
          have xf := hst2.zf
          have xz : w.heap.size < w2.heap.size := by omega
          have HS2 := Lib.hid hst2
          clear hst2
          go_wp2_with fail
          all_goals first
            | (have hz : actErr M' A = 0 := (by have hh : (actErr M' A != 0) = false := (by assumption); simpa using hh)
               have HP := Lib.hid (HS2.out.put (v2 := kE M' f A) HL.out (.cells #[.int .u8 (kE M' f A).tag, .int .u32 (kE M' f A).to] 25))
               go_roundg (gk - 1)
               case rel => exact ⟨k - 1, _, _, _, by omega, by go_num, by omega, by omega, hEo, HP.out, by rw [← HQ.out, cubeGo_ok hlk HC.out hz]⟩
               case measure => omega)
            | (have hz : ¬ actErr M' A = 0 := (by have hh : (actErr M' A != 0) = true := (by assumption); simpa using hh)
               have hb := HQ.out.symm.trans (cubeGo_bad hlk HC.out hz)
               rw [hb]
               refine bodyPost_ret (v := .tuple #[.agg #[.int .u8 0, .int .u32 0], .int .u8 (actErr M' A)]) (by simp [results, Try.results57, go_sem, xz, x0, x1]) rfl ⟨rfl, HS2.out.done HL.out ?_⟩
               exact (((Upd.refl (fun k => k = w.heap.size) _).setCell (p := ⟨w.heap.size, 0, none⟩) (Or.inl rfl) _).setCell (p := ⟨w.heap.size, 1, none⟩) (Or.inl rfl) _).alloc _)
    · have hk3 : (k - l + 1).toNat = 0 := by omega
      rw [hk3] at heq
      have y0 := hI.e0
      have y1 := hI.e1
      have yz := hI.sz
      have x0 := hI.z0
      have x1 := hI.z1
      have xf := hI.zf
      have hse := hI.se
      have xz : w.heap.size < wr.heap.size := by omega
      have HI' := Lib.hid hI
      have HQ := Lib.hid heq
      clear hI heq hk3
      go_wp2_with fail
      rw [← HQ.out]
      refine bodyPost_ret (v := .tuple #[.agg #[.int .u8 v.tag, .int .u32 v.to], .int .u8 0]) (by simp [results, Try.results57, go_sem, xz, x0, x1]) rfl ⟨rfl, HI'.out.done HL.out ?_⟩
      exact ((Upd.refl (fun k => k = w.heap.size) _).setCell (p := ⟨w.heap.size, 0, none⟩) (Or.inl rfl) _).setCell (p := ⟨w.heap.size, 1, none⟩) (Or.inl rfl) _


end Go.Proofs.Ytimffidpbcflaaa

namespace Go.Proofs.Ytimffidpbcflaaa
set_option linter.unusedSimpArgs false
set_option linter.unusedVariables false
set_option maxHeartbeats 600000
open Go.RowKit

def kM1 : St := ⟨[some ⟨2, 1, 1, ⟨0, 0⟩, ⟨0, 1⟩⟩], [], 3, 5⟩

theorem kCube : cubeGo 2 0 2 5 3 (St.new 3 5) (oneE 2 3) = (⟨0, 2⟩, 0, kM1) := by rfl

theorem kcube {F : Nat → Prop} {w : World} {sb : Nat} (h : StoreRep F w sb (St.new 3 5)) :
    Calls Try.prog 57 #[.pointer (some ⟨sb, 0, none⟩), .int .u8 2, .int .i64 0, .int .u16 2, .int .u16 5] w fun e w' =>
      e = .returned (.tuple #[.agg #[.int .u8 0, .int .u32 2], .int .u8 0]) ∧ Upd F w w' ∧ StoreRep (Grow F w w') w' sb kM1 := by
  have := cube_calls h 2 0 2 5 (by decide) (by decide) rfl (by decide) (by decide) (by decide) (by decide) rfl rfl rfl
  have e : cubeGo 2 0 2 5 ((St.new 3 5).n - 0).toNat (St.new 3 5) (oneE 2 (St.new 3 5).n) = (⟨0, 2⟩, 0, kM1) := kCube
  rw [e] at this
  exact this

theorem kget {F : Nat → Prop} {w : World} {sb : Nat} (h : StoreRep F w sb kM1) :
    Calls Try.prog 45 #[.pointer (some ⟨sb, 0, none⟩), .int .u32 2] w fun e w' =>
      e = .returned (.tuple #[.agg #[.int .u8 2, .int .u8 1, .int .u8 1, .int .u8 0, .int .u32 0, .int .u8 0, .int .u32 1], .bool true]) ∧ Keeps w w' := by
  have := store_get h 2 (by decide)
  rw [show look kM1.cs 2 = some ⟨2, 1, 1, ⟨0, 0⟩, ⟨0, 1⟩⟩ from rfl] at this
  exact this

theorem klen {F : Nat → Prop} {w : World} {sb : Nat} (h : StoreRep F w sb kM1) :
    Calls Try.prog 43 #[.pointer (some ⟨sb, 0, none⟩)] w fun e w' => e = .returned (.int .i64 1) ∧ w = w' := store_len h

set_option maxRecDepth 100000 in
theorem k_alive (w : World) : Calls Try.prog 49 #[] w fun e w' => e = .returned (.bool true) ∧ Keeps w w' := by
  have q1 := eql_edge_same ⟨0, 1⟩ ⟨0, 1⟩ rfl
  have q2 := eql_edge_same ⟨0, 0⟩ ⟨0, 0⟩ rfl
  go_enter Try.func49, Try.ntmps49
  go_wp2_with (go_at_call 41; refine (store_new 3 5 _ (by decide) (by decide) (by decide) (by decide)).mono ?_; rintro e w1 ⟨sb, F, rfl, hk, hF, hS⟩)
  refine (kcube hS).mono ?_
  rintro e w2 ⟨rfl, hu, hS2⟩
  have hk2 : Keeps w w2 := hk.new hu hF
  have HS2 := Lib.hid hS2
  clear hS hu hF hS2
  go_wp2_with fail
  refine (kget (HS2.out.keeps ((Keeps.refl _).alloc _))).mono ?_
  rintro e w3 ⟨rfl, hb⟩
  have hk3 : Keeps w2 w3 := ((Keeps.refl _).alloc _).trans hb
  have hk4 : Keeps w w3 := hk2.trans hk3
  have HL := Lib.hid (klen ((HS2.out.keeps hk3).keeps ((Keeps.refl _).alloc (.cells #[.int .u8 2, .int .u8 1, .int .u8 1, .int .u8 0, .int .u32 0, .int .u8 0, .int .u32 1] 58))))
  clear hb hk3
  go_wp2_with (go_at_call 43; refine HL.out.mono ?_; rintro e w' ⟨rfl, rfl⟩)
  go_ret
  exact ⟨rfl, by (repeat (first | with_reducible exact Keeps.refl _ | with_reducible assumption | with_reducible refine Keeps.alloc ?_ _ | with_reducible refine Keeps.drewN ?_ _ | with_reducible refine Keeps.drew ?_ | refine Keeps.setCell ?_ (by dsimp only; omega) _ | with_reducible refine Keeps.trans ?_ (by assumption)))⟩

end Go.Proofs.Ytimffidpbcflaaa

namespace Go.Proofs.Ytimffidpbcflaaa
set_option linter.unusedSimpArgs false
set_option linter.unusedVariables false
set_option maxHeartbeats 600000
open Go.ChangeShapes Go.WideShapes Go.ChangeAt Go.RowKit

set_option maxRecDepth 100000 in
theorem canonNil_walk (f l : Int) (lo hi : Edge) (x : Int) (w : World) (_ : (Lit.int .u8 f).wf = true) (_ : (Lit.int .i64 l).wf = true) (_ : lo.ok) (_ : hi.ok) (_ : (Lit.int .u16 x).wf = true) :
    Calls Try.prog 13 #[.int .u8 f, .int .i64 l, .agg #[.int .u8 lo.tag, .int .u32 lo.to], .agg #[.int .u8 hi.tag, .int .u32 hi.to], .int .u16 x] w fun e w' => e = .returned (.bool true) ∧ Keeps w w' := by
  have q2 := eql_edge_same ⟨0, 0⟩ ⟨0, 0⟩ rfl
  go_enter Try.func13, Try.ntmps13
  go_wp2_with (go_at_call 49; refine (k_alive _).mono ?_; rintro e w1 ⟨rfl, hb⟩; have y0 := hb.cell (a := ⟨w.heap.size, 0, none⟩) (v := .int .u8 lo.tag) (by simp [go_sem]); have y1 := hb.cell (a := ⟨w.heap.size, 1, none⟩) (v := .int .u32 lo.to) (by simp [go_sem]); have x0 := hb.cell (a := ⟨w.heap.size + 1, 0, none⟩) (v := .int .u8 hi.tag) (by simp [go_sem]); have x1 := hb.cell (a := ⟨w.heap.size + 1, 1, none⟩) (v := .int .u32 hi.to) (by simp [go_sem]); have hk : Keeps w w1 := (by (repeat (first | with_reducible exact Keeps.refl _ | with_reducible assumption | with_reducible refine Keeps.alloc ?_ _ | with_reducible refine Keeps.drewN ?_ _ | with_reducible refine Keeps.drew ?_ | refine Keeps.setCell ?_ (by dsimp only; omega) _ | with_reducible refine Keeps.trans ?_ (by assumption)))); have hsz := hb.size; simp only [World.size_alloc] at hsz; have lw : w.heap.size < w1.heap.size := (by omega); have lw1 : w.heap.size + 1 < w1.heap.size := (by omega); clear hb)
  refine (nil_kmake f l lo hi _).mono ?_
  rintro e w2 ⟨rfl, hb⟩
  have y0 := hb.cell y0
  have y1 := hb.cell y1
  have x0 := hb.cell x0
  have x1 := hb.cell x1
  have hk : Keeps w w2 := hk.trans hb
  have hsz := hb.size
  have lb2_0 : w.heap.size < w2.heap.size := by omega
  have lb2_1 : w.heap.size + 1 < w2.heap.size := by omega
  clear hb
  go_wp2_with fail
  refine (nil_kview f lo l _).mono ?_
  rintro e w3 ⟨rfl, hb⟩
  have a0 := hb.cell (a := ⟨w2.heap.size, 0, none⟩) (v := .int .u8 0) (by simp [go_sem])
  have a1 := hb.cell (a := ⟨w2.heap.size, 1, none⟩) (v := .int .u32 0) (by simp [go_sem])
  have hb : Keeps w2 w3 := Keeps.trans (by (repeat (first | with_reducible exact Keeps.refl _ | with_reducible assumption | with_reducible refine Keeps.alloc ?_ _ | with_reducible refine Keeps.drewN ?_ _ | with_reducible refine Keeps.drew ?_ | refine Keeps.setCell ?_ (by dsimp only; omega) _ | with_reducible refine Keeps.trans ?_ (by assumption)))) hb
  have y0 := hb.cell y0
  have y1 := hb.cell y1
  have x0 := hb.cell x0
  have x1 := hb.cell x1
  have hk : Keeps w w3 := hk.trans hb
  have hsz := hb.size
  have la := lt_of_cell a0
  dsimp only at la
  have lb3_0 : w.heap.size < w3.heap.size := by omega
  have lb3_1 : w.heap.size + 1 < w3.heap.size := by omega
  clear hb
  go_wp2_with fail
  refine (nil_holds f l x lo _).mono ?_
  rintro e w4 ⟨rfl, hb⟩
  have b0 := hb.cell (a := ⟨w3.heap.size, 0, none⟩) (v := .int .u8 0) (by simp [go_sem])
  have b1 := hb.cell (a := ⟨w3.heap.size, 1, none⟩) (v := .int .u32 0) (by simp [go_sem])
  have c0 := hb.cell (a := ⟨w3.heap.size + 1, 0, none⟩) (v := .int .u8 0) (by simp [go_sem])
  have c1 := hb.cell (a := ⟨w3.heap.size + 1, 1, none⟩) (v := .int .u32 0) (by simp [go_sem])
  have hb : Keeps w3 w4 := Keeps.trans (by (repeat (first | with_reducible exact Keeps.refl _ | with_reducible assumption | with_reducible refine Keeps.alloc ?_ _ | with_reducible refine Keeps.drewN ?_ _ | with_reducible refine Keeps.drew ?_ | refine Keeps.setCell ?_ (by dsimp only; omega) _ | with_reducible refine Keeps.trans ?_ (by assumption)))) hb
  have y0 := hb.cell y0
  have y1 := hb.cell y1
  have x0 := hb.cell x0
  have x1 := hb.cell x1
  have a0 := hb.cell a0
  have a1 := hb.cell a1
  have hk : Keeps w w4 := hk.trans hb
  have hsz := hb.size
  have lb := lt_of_cell b0
  dsimp only at lb
  have lc := lt_of_cell c0
  dsimp only at lc
  have lb4_0 : w.heap.size < w4.heap.size := by omega
  have lb4_1 : w.heap.size + 1 < w4.heap.size := by omega
  have lb4_2 : w2.heap.size < w4.heap.size := by omega
  clear hb
  go_wp2_with fail
  refine (nil_cube f l x x _).mono ?_
  rintro e w5 ⟨rfl, hb⟩
  have y0 := hb.cell y0
  have y1 := hb.cell y1
  have x0 := hb.cell x0
  have x1 := hb.cell x1
  have a0 := hb.cell a0
  have a1 := hb.cell a1
  have b0 := hb.cell b0
  have b1 := hb.cell b1
  have c0 := hb.cell c0
  have c1 := hb.cell c1
  have hk : Keeps w w5 := hk.trans hb
  have hsz := hb.size
  have lb5_0 : w.heap.size < w5.heap.size := by omega
  have lb5_1 : w.heap.size + 1 < w5.heap.size := by omega
  have lb5_2 : w2.heap.size < w5.heap.size := by omega
  have lb5_3 : w3.heap.size < w5.heap.size := by omega
  have lb5_4 : w3.heap.size + 1 < w5.heap.size := by omega
  clear hb
  go_wp2_with fail
  refine (nil_size f l lo _).mono ?_
  rintro e w6 ⟨rfl, hb⟩
  have d0 := hb.cell (a := ⟨w5.heap.size, 0, none⟩) (v := .int .u8 0) (by simp [go_sem])
  have d1 := hb.cell (a := ⟨w5.heap.size, 1, none⟩) (v := .int .u32 0) (by simp [go_sem])
  have hb : Keeps w5 w6 := Keeps.trans (by (repeat (first | with_reducible exact Keeps.refl _ | with_reducible assumption | with_reducible refine Keeps.alloc ?_ _ | with_reducible refine Keeps.drewN ?_ _ | with_reducible refine Keeps.drew ?_ | refine Keeps.setCell ?_ (by dsimp only; omega) _ | with_reducible refine Keeps.trans ?_ (by assumption)))) hb
  have y0 := hb.cell y0
  have y1 := hb.cell y1
  have x0 := hb.cell x0
  have x1 := hb.cell x1
  have a0 := hb.cell a0
  have a1 := hb.cell a1
  have b0 := hb.cell b0
  have b1 := hb.cell b1
  have c0 := hb.cell c0
  have c1 := hb.cell c1
  have hk : Keeps w w6 := hk.trans hb
  have hsz := hb.size
  have ld := lt_of_cell d0
  dsimp only at ld
  have lb6_0 : w.heap.size < w6.heap.size := by omega
  have lb6_1 : w.heap.size + 1 < w6.heap.size := by omega
  have lb6_2 : w2.heap.size < w6.heap.size := by omega
  have lb6_3 : w3.heap.size < w6.heap.size := by omega
  have lb6_4 : w3.heap.size + 1 < w6.heap.size := by omega
  clear hb
  go_wp2_with (go_at_call 58; refine (nil_kright f lo l _).mono ?_; rintro e w7 ⟨rfl, hb7⟩)
  all_goals (go_ret; exact ⟨rfl, by (repeat (first | with_reducible exact Keeps.refl _ | with_reducible assumption | with_reducible refine Keeps.alloc ?_ _ | with_reducible refine Keeps.drewN ?_ _ | with_reducible refine Keeps.drew ?_ | refine Keeps.setCell ?_ (by dsimp only; omega) _ | with_reducible refine Keeps.trans ?_ (by assumption)))⟩)

set_option maxRecDepth 100000 in
theorem canonNil_lifted (os : Os) (started : os.Started) (H : Type) (enc : TypeId × Value → H) :
    ReturnsInHanded {} Try.checked os 13 .any (Rows.canonNilSpec.pre6 enc Try.prog Try.f13 Rows.canonNilRow.domain false) (Rows.canonNilSpec.post enc Try.prog Try.f13 false true false false) := by
  refine returnsInHanded_of_change (C := Try.checked) own started (by kernel_rfl) Try.func13
    (ChangeSpec.witness6 (enc := enc) (C := Try.checked) false ⟨#[], #[.int .u8 0, .int .i64 0, .agg #[.int .u8 0, .int .u32 0], .agg #[.int .u8 0, .int .u32 0], .int .u16 0], []⟩ 12 (by kernel_rfl) (by kernel_rfl) (by kernel_rfl) (by kernel_rfl)) ?_
  intro W base args ds gs before hval0 hW hcnd _
  have hval : ∀ (j : Nat) t v, Try.f13.params[j]? = some t → args[j]? = some v → Value.okWide Try.prog W .any base t v := hval0
  have hW' := hW
  obtain ⟨p, q, hA0, hV, rfl, hfz, hnd⟩ := hW
  have hA : DataW.TrodAll enc Try.prog W 0 (fun _ => true) true Try.f13.params.toList args.toList ds p := hA0
  rw [Try.params13] at hA hval
  have hAk := hA
  obtain ⟨v0, vs0, d0, ds0, p0, q0, hargs, rfl, rfl, h0, r0⟩ := trodAll_cons hA
  obtain ⟨v1, vs1, d1, ds1, p1, q1, rfl, rfl, rfl, h1, r1⟩ := trodAll_cons r0
  obtain ⟨v2, vs2, d2, ds2, p2, q2, rfl, rfl, rfl, h2, r2⟩ := trodAll_cons r1
  obtain ⟨v3, vs3, d3, ds3, p3, q3, rfl, rfl, rfl, h3, r3⟩ := trodAll_cons r2
  obtain ⟨v4, vs4, d4, ds4, p4, q4, rfl, rfl, rfl, h4, r4⟩ := trodAll_cons r3
  obtain ⟨rfl, rfl, rfl⟩ := trodAll_nil r4
  obtain rfl : args = #[v0, v1, v2, v3, v4] := by cases args; simp_all
  obtain ⟨rfl, rfl⟩ := trodVars_none hV
  obtain ⟨a0, rfl, rfl, rfl, w0⟩ := open_int Try.underlying5 (hval 0 5 v0 rfl rfl) h0
  obtain ⟨a1, rfl, rfl, rfl, w1⟩ := open_int Try.underlying3 (hval 1 3 v1 rfl rfl) h1
  obtain ⟨a2, w2, rfl⟩ := open_edge (hval 2 25 v2 rfl rfl) h2
  obtain ⟨a3, w3, rfl⟩ := open_edge (hval 3 25 v3 rfl rfl) h3
  obtain ⟨a4, rfl, rfl, rfl, w4⟩ := open_int Try.underlying67 (hval 4 67 v4 rfl rfl) h4
  clear hA0 hval0
  refine (canonNil_walk a0 a1 a2 a3 a4 W w0 w1 w2 w3 w4).mono fun e W' ⟨he, bel⟩ => ?_
  subst he
  exact ⟨_, rfl, _, _, _, [], _, [], hW', trodAll_mk1 (shut_bool Try.underlying4 _), trodAll_below laidOut bel _ _ _ _ (by kernel_rfl) hAk, rfl, Below.frame bel _, fun h => by cases h⟩

theorem canonNil_over : Rows.canonNilRow.holds Try.pinned (OpenSpec.ofChange Rows.canonNilSpec) :=
  OpenClaim.holds_of_wide 13 Try.f13 rfl rfl rfl rfl rfl rfl rfl ⟨rfl, rfl, rfl, rfl, rfl⟩ rfl rfl rfl rfl rfl (by kernel_rfl) Try.func13 (by kernel_rfl)
    (of_decide_eq_true (by kernel_rfl)) (by unfold Func.isWrapper; first | (rw [if_pos (by decide +kernel)]; kernel_rfl) | (rw [if_neg (by decide +kernel)]; exact ⟨rfl, rfl⟩))
    (fun os started H enc _ => canonNil_lifted os started H enc)

theorem canonNil_proved : Rows.CanonNilSaid := canonNil_over

end Go.Proofs.Ytimffidpbcflaaa
