/-
  ramageref05.Value, ramageref17.Is, ramageref17.May; the rounds of ramageref17.Holds where a level is left out.
-/
import Derived.Test.YtiacdpoldgfpbaaGreatPLeadsAxB
import Derived.Test.YtiacdpoldgfpbaaGreatPMeansA
namespace Go.Proofs.YtiacdpoldgfpbaaGreat
set_option linter.unusedSimpArgs false
set_option linter.unusedVariables false
set_option maxHeartbeats 600000
open Go.RowKit

theorem value_calls (x k : Int) (w : World) (hx0 : 0 ≤ x) (hx1 : x ≤ 65535) (hk0 : 0 ≤ k) (hk1 : k ≤ 16) :
    Calls Tryz.prog 11 #[.int .i64 x, .int .i64 k] w fun e w' => e = .returned (.int .i64 (bitI (bitB x k))) ∧ w = w' := by
  obtain ⟨n, rfl⟩ : ∃ n : Nat, k = (n : Int) := ⟨k.toNat, by omega⟩
  have HS := Lib.hid (size_calls n (by omega) w)
  have hp1 : 2 ^ n ≤ 2 ^ 16 := Nat.pow_le_pow_right (by decide) (by omega)
  have hp0 : 0 < 2 ^ n := Nat.pow_pos (by decide)
  have e16 : (2 : Nat) ^ 16 = 65536 := rfl
  have hv : bitI (bitB x n) = x / ((2 ^ n : Nat) : Int) % 2 := by
    unfold bitI bitB
    have e1 : ((2 ^ n : Nat) : Int) = 2 ^ (n : Int).toNat := by push_cast; rfl
    rw [e1]
    by_cases h : x / 2 ^ (n : Int).toNat % 2 = 1
    · rw [decide_eq_true h, h]; rfl
    · rw [decide_eq_false h]; show (0 : Int) = _; omega
  rw [hv]
  obtain ⟨p, hp⟩ : ∃ p, p = 2 ^ n := ⟨_, rfl⟩
  rw [← hp] at HS hp1 hp0 ⊢
  rw [e16] at hp1
  clear hp hv
  have pp : (p : Int) ≠ 0 := by omega
  have g0 : ((p : Int) == 0) = false := by simp; omega
  have e1 : x.tdiv (p : Int) = x / (p : Int) := Int.tdiv_eq_ediv_of_nonneg hx0
  have hq0 : 0 ≤ x / (p : Int) := Int.ediv_nonneg hx0 (by omega)
  have hq1 : x / (p : Int) ≤ x := Int.ediv_le_self _ hx0
  have e2 : (x / (p : Int)).tmod 2 = x / (p : Int) % 2 := Int.tmod_eq_emod_of_nonneg hq0
  go_enter Tryz.func11, Tryz.ntmps11
  go_wp2_with (first | (go_at_call 44; refine HS.out.mono ?_; rintro e w' ⟨rfl, rfl⟩) | fail)
  go_ret
  exact ⟨by rfl, rfl⟩

theorem ris_calls (f : Int) (w : World) : Calls Tryz.prog 12 #[.int .u8 f] w fun e w' => e = .returned (.bool (isFormB f)) ∧ w = w' := by
  unfold isFormB
  by_cases h1 : 1 ≤ f
  · by_cases h2 : f ≤ 5
    · rw [decide_eq_true h1, decide_eq_true h2]
      go_enter Tryz.func12, Tryz.ntmps12
      go_wp2
      go_ret
      exact ⟨rfl, rfl⟩
    · rw [decide_eq_true h1, decide_eq_false h2]
      go_enter Tryz.func12, Tryz.ntmps12
      go_wp2
      go_ret
      exact ⟨rfl, rfl⟩
  · rw [decide_eq_false h1]
    go_enter Tryz.func12, Tryz.ntmps12
    go_wp2
    go_ret
    exact ⟨rfl, rfl⟩

end Go.Proofs.YtiacdpoldgfpbaaGreat

namespace Go.Proofs.YtiacdpoldgfpbaaGreat
set_option linter.unusedSimpArgs false
set_option linter.unusedVariables false
set_option maxHeartbeats 600000
open Go.RowKit

theorem mod_bit (y k : Nat) : y % 2 ^ (k + 1) / 2 ^ k % 2 = y / 2 ^ k % 2 ∧ y % 2 ^ (k + 1) % 2 ^ k = y % 2 ^ k := by
  have hp : 0 < 2 ^ k := Nat.pow_pos (by decide)
  constructor
  · rw [Nat.mod_pow_succ, Nat.add_mul_div_left _ _ hp, Nat.div_eq_of_lt (Nat.mod_lt _ hp), Nat.zero_add, Nat.mod_mod]
  · rw [Nat.pow_succ, Nat.mod_mul_right_mod]

theorem bitB_nat (y k : Nat) : bitB (y : Int) (k : Int) = decide (y / 2 ^ k % 2 = 1) := by
  unfold bitB
  rw [Int.toNat_natCast]
  congr 1
  have : (y : Int) / 2 ^ k % 2 = ((y / 2 ^ k % 2 : Nat) : Int) := by push_cast; rfl
  rw [this]
  exact propext ⟨fun h => by exact_mod_cast h, fun h => by exact_mod_cast h⟩

end Go.Proofs.YtiacdpoldgfpbaaGreat
