/-
  A round of ramageref17.Holds at a record further down.
-/
import Derived.Test.YtnkehgohamjpaaaPHoldsF
namespace Go.Proofs.Ytnkehgohamjpaaa
set_option linter.unusedSimpArgs false
set_option linter.unusedVariables false
set_option maxHeartbeats 600000
open Go.RowKit

set_option maxRecDepth 100000 in
set_option maxHeartbeats 4000000 in
theorem rh_above (sb : Nat) (f l n x : Int) (e : Edge) (b R : Bool) (w : World) (hsb : sb < w.heap.size) (hf : 1 ≤ f ∧ f ≤ 5) (hz : e.to ≠ 0) (ho : e.ok) (hl0 : 0 ≤ l) (hln : l < n) (hn : n ≤ 16) (c3 : w.cell? ⟨sb, 3, none⟩ = some (.int .i64 n))
    (top : Int) (lb D len cap : Nat) (hx0 : 0 ≤ top) (hx1 : top ≤ 255) (hlt : l < top) (c0 : w.cell? ⟨sb, 0, none⟩ = some (.slice (some ⟨lb, 0, none⟩) len cap)) (hD : D < len) (hlen : len ≤ 1048576) (s1 : w.cell? ⟨lb, D * 8 + 2, none⟩ = some (.int .u8 top))
    (ha : ∀ W, Keeps w W → Calls Try.prog 66 #[.pointer (some ⟨sb, 0, none⟩), .int .u32 e.to] W fun r w' => r = .returned (.int .i64 (D : Int)) ∧ W = w')
    (hv : ∀ W, Calls Try.prog 96 #[.int .i64 x, .int .i64 l] W fun r w' => r = .returned (.int .i64 (bitI b)) ∧ W = w')
    (hi : ∀ W, Keeps w W → Calls Try.prog 59 #[.pointer (some ⟨sb, 0, none⟩), .int .u8 f, .agg #[.int .u8 e.tag, .int .u32 e.to], .int .i64 (l + 1), .int .i64 x] W fun r w' => r = .returned (.bool R) ∧ Keeps W w') :
    Calls Try.prog 59 #[.pointer (some ⟨sb, 0, none⟩), .int .u8 f, .agg #[.int .u8 e.tag, .int .u32 e.to], .int .i64 l, .int .i64 x] w fun r w' => r = .returned (.bool (if zeroAt f e l && b then false else R)) ∧ Keeps w w' := by
  have t0 : 0 ≤ e.tag := ho.1.1
  have t1 : e.tag ≤ 255 := ho.1.2
  have hlb : lb < w.heap.size := lt_of_cell s1
  have hlb1 : lb < w.heap.size + 1 := by omega
  have hp : 0 < e.to := by have := ho.2.1; omega
  have hsb1 : sb < w.heap.size + 1 := by omega
  have hg : ∀ d : Int, l < n := fun _ => hln
  have HA := Lib.hid ha
  have HV := Lib.hid hv
  have HI := Lib.hid hi
  clear ha hv hi hg
  by_cases h1 : f = 1
  · subst h1
    rw [show zeroAt 1 e l = false from rfl]
    cases b
    all_goals (go_enter Try.func59, Try.ntmps59; go_wp2_with (first | (go_at_call 66; refine (HA.out _ (by (repeat (first | with_reducible exact Keeps.refl _ | with_reducible assumption | with_reducible refine Keeps.alloc ?_ _ | with_reducible refine Keeps.drewN ?_ _ | with_reducible refine Keeps.drew ?_ | refine Keeps.setCell ?_ (by dsimp only; omega) _ | with_reducible refine Keeps.trans ?_ (by assumption))))).mono ?_; rintro e2 w2 ⟨rfl, rfl⟩) | (go_at_call 96; refine (HV.out _).mono ?_; rintro e3 w3 ⟨rfl, rfl⟩) | (go_at_call 59; refine (HI.out _ (by (repeat (first | with_reducible exact Keeps.refl _ | with_reducible assumption | with_reducible refine Keeps.alloc ?_ _ | with_reducible refine Keeps.drewN ?_ _ | with_reducible refine Keeps.drew ?_ | refine Keeps.setCell ?_ (by dsimp only; omega) _ | with_reducible refine Keeps.trans ?_ (by assumption))))).mono ?_; rintro e4 w4 ⟨rfl, hk4⟩) | fail); all_goals first | (exfalso; omega) | (go_ret; exact ⟨rfl, by (repeat (first | with_reducible exact Keeps.refl _ | with_reducible assumption | with_reducible refine Keeps.alloc ?_ _ | with_reducible refine Keeps.drewN ?_ _ | with_reducible refine Keeps.drew ?_ | refine Keeps.setCell ?_ (by dsimp only; omega) _ | with_reducible refine Keeps.trans ?_ (by assumption)))⟩))
  · by_cases h2 : f = 2
    · subst h2
      rw [show zeroAt 2 e l = true from rfl]
      cases b
      all_goals (go_enter Try.func59, Try.ntmps59; go_wp2_with (first | (go_at_call 66; refine (HA.out _ (by (repeat (first | with_reducible exact Keeps.refl _ | with_reducible assumption | with_reducible refine Keeps.alloc ?_ _ | with_reducible refine Keeps.drewN ?_ _ | with_reducible refine Keeps.drew ?_ | refine Keeps.setCell ?_ (by dsimp only; omega) _ | with_reducible refine Keeps.trans ?_ (by assumption))))).mono ?_; rintro e2 w2 ⟨rfl, rfl⟩) | (go_at_call 96; refine (HV.out _).mono ?_; rintro e3 w3 ⟨rfl, rfl⟩) | (go_at_call 59; refine (HI.out _ (by (repeat (first | with_reducible exact Keeps.refl _ | with_reducible assumption | with_reducible refine Keeps.alloc ?_ _ | with_reducible refine Keeps.drewN ?_ _ | with_reducible refine Keeps.drew ?_ | refine Keeps.setCell ?_ (by dsimp only; omega) _ | with_reducible refine Keeps.trans ?_ (by assumption))))).mono ?_; rintro e4 w4 ⟨rfl, hk4⟩) | fail); all_goals first | (exfalso; omega) | (go_ret; exact ⟨rfl, by (repeat (first | with_reducible exact Keeps.refl _ | with_reducible assumption | with_reducible refine Keeps.alloc ?_ _ | with_reducible refine Keeps.drewN ?_ _ | with_reducible refine Keeps.drew ?_ | refine Keeps.setCell ?_ (by dsimp only; omega) _ | with_reducible refine Keeps.trans ?_ (by assumption)))⟩))
    · by_cases h3 : f = 3
      · subst h3
        rw [show zeroAt 3 e l = false from rfl]
        cases b
        all_goals (go_enter Try.func59, Try.ntmps59; go_wp2_with (first | (go_at_call 66; refine (HA.out _ (by (repeat (first | with_reducible exact Keeps.refl _ | with_reducible assumption | with_reducible refine Keeps.alloc ?_ _ | with_reducible refine Keeps.drewN ?_ _ | with_reducible refine Keeps.drew ?_ | refine Keeps.setCell ?_ (by dsimp only; omega) _ | with_reducible refine Keeps.trans ?_ (by assumption))))).mono ?_; rintro e2 w2 ⟨rfl, rfl⟩) | (go_at_call 96; refine (HV.out _).mono ?_; rintro e3 w3 ⟨rfl, rfl⟩) | (go_at_call 59; refine (HI.out _ (by (repeat (first | with_reducible exact Keeps.refl _ | with_reducible assumption | with_reducible refine Keeps.alloc ?_ _ | with_reducible refine Keeps.drewN ?_ _ | with_reducible refine Keeps.drew ?_ | refine Keeps.setCell ?_ (by dsimp only; omega) _ | with_reducible refine Keeps.trans ?_ (by assumption))))).mono ?_; rintro e4 w4 ⟨rfl, hk4⟩) | fail); all_goals first | (exfalso; omega) | (go_ret; exact ⟨rfl, by (repeat (first | with_reducible exact Keeps.refl _ | with_reducible assumption | with_reducible refine Keeps.alloc ?_ _ | with_reducible refine Keeps.drewN ?_ _ | with_reducible refine Keeps.drew ?_ | refine Keeps.setCell ?_ (by dsimp only; omega) _ | with_reducible refine Keeps.trans ?_ (by assumption)))⟩))
      · by_cases h4 : f = 4
        · subst h4
          rw [show zeroAt 4 e l = true from rfl]
          cases b
          all_goals (go_enter Try.func59, Try.ntmps59; go_wp2_with (first | (go_at_call 66; refine (HA.out _ (by (repeat (first | with_reducible exact Keeps.refl _ | with_reducible assumption | with_reducible refine Keeps.alloc ?_ _ | with_reducible refine Keeps.drewN ?_ _ | with_reducible refine Keeps.drew ?_ | refine Keeps.setCell ?_ (by dsimp only; omega) _ | with_reducible refine Keeps.trans ?_ (by assumption))))).mono ?_; rintro e2 w2 ⟨rfl, rfl⟩) | (go_at_call 96; refine (HV.out _).mono ?_; rintro e3 w3 ⟨rfl, rfl⟩) | (go_at_call 59; refine (HI.out _ (by (repeat (first | with_reducible exact Keeps.refl _ | with_reducible assumption | with_reducible refine Keeps.alloc ?_ _ | with_reducible refine Keeps.drewN ?_ _ | with_reducible refine Keeps.drew ?_ | refine Keeps.setCell ?_ (by dsimp only; omega) _ | with_reducible refine Keeps.trans ?_ (by assumption))))).mono ?_; rintro e4 w4 ⟨rfl, hk4⟩) | fail); all_goals first | (exfalso; omega) | (go_ret; exact ⟨rfl, by (repeat (first | with_reducible exact Keeps.refl _ | with_reducible assumption | with_reducible refine Keeps.alloc ?_ _ | with_reducible refine Keeps.drewN ?_ _ | with_reducible refine Keeps.drew ?_ | refine Keeps.setCell ?_ (by dsimp only; omega) _ | with_reducible refine Keeps.trans ?_ (by assumption)))⟩))
        · have h5 : f = 5 := by omega
          subst h5
          by_cases ht : e.tag ≤ l
          · rw [show zeroAt 5 e l = true by unfold zeroAt; rw [decide_eq_true ht]; rfl]
            cases b
            all_goals (go_enter Try.func59, Try.ntmps59; go_wp2_with (first | (go_at_call 66; refine (HA.out _ (by (repeat (first | with_reducible exact Keeps.refl _ | with_reducible assumption | with_reducible refine Keeps.alloc ?_ _ | with_reducible refine Keeps.drewN ?_ _ | with_reducible refine Keeps.drew ?_ | refine Keeps.setCell ?_ (by dsimp only; omega) _ | with_reducible refine Keeps.trans ?_ (by assumption))))).mono ?_; rintro e2 w2 ⟨rfl, rfl⟩) | (go_at_call 96; refine (HV.out _).mono ?_; rintro e3 w3 ⟨rfl, rfl⟩) | (go_at_call 59; refine (HI.out _ (by (repeat (first | with_reducible exact Keeps.refl _ | with_reducible assumption | with_reducible refine Keeps.alloc ?_ _ | with_reducible refine Keeps.drewN ?_ _ | with_reducible refine Keeps.drew ?_ | refine Keeps.setCell ?_ (by dsimp only; omega) _ | with_reducible refine Keeps.trans ?_ (by assumption))))).mono ?_; rintro e4 w4 ⟨rfl, hk4⟩) | fail); all_goals first | (exfalso; omega) | (go_ret; exact ⟨rfl, by (repeat (first | with_reducible exact Keeps.refl _ | with_reducible assumption | with_reducible refine Keeps.alloc ?_ _ | with_reducible refine Keeps.drewN ?_ _ | with_reducible refine Keeps.drew ?_ | refine Keeps.setCell ?_ (by dsimp only; omega) _ | with_reducible refine Keeps.trans ?_ (by assumption)))⟩))
          · rw [show zeroAt 5 e l = false by unfold zeroAt; rw [decide_eq_false ht]; rfl]
            cases b
            all_goals (go_enter Try.func59, Try.ntmps59; go_wp2_with (first | (go_at_call 66; refine (HA.out _ (by (repeat (first | with_reducible exact Keeps.refl _ | with_reducible assumption | with_reducible refine Keeps.alloc ?_ _ | with_reducible refine Keeps.drewN ?_ _ | with_reducible refine Keeps.drew ?_ | refine Keeps.setCell ?_ (by dsimp only; omega) _ | with_reducible refine Keeps.trans ?_ (by assumption))))).mono ?_; rintro e2 w2 ⟨rfl, rfl⟩) | (go_at_call 96; refine (HV.out _).mono ?_; rintro e3 w3 ⟨rfl, rfl⟩) | (go_at_call 59; refine (HI.out _ (by (repeat (first | with_reducible exact Keeps.refl _ | with_reducible assumption | with_reducible refine Keeps.alloc ?_ _ | with_reducible refine Keeps.drewN ?_ _ | with_reducible refine Keeps.drew ?_ | refine Keeps.setCell ?_ (by dsimp only; omega) _ | with_reducible refine Keeps.trans ?_ (by assumption))))).mono ?_; rintro e4 w4 ⟨rfl, hk4⟩) | fail); all_goals first | (exfalso; omega) | (go_ret; exact ⟨rfl, by (repeat (first | with_reducible exact Keeps.refl _ | with_reducible assumption | with_reducible refine Keeps.alloc ?_ _ | with_reducible refine Keeps.drewN ?_ _ | with_reducible refine Keeps.drew ?_ | refine Keeps.setCell ?_ (by dsimp only; omega) _ | with_reducible refine Keeps.trans ?_ (by assumption)))⟩))

end Go.Proofs.Ytnkehgohamjpaaa
