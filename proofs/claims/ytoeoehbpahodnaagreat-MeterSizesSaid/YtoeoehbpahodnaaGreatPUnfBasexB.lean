/-
  Tables out of numbers: Size, Bits; the edges of the ends.
-/
import Derived.Test.YtoeoehbpahodnaaGreatPHPlainA
import Derived.Test.YtoeoehbpahodnaaGreatPTextsAxB
namespace Go.Proofs.YtoeoehbpahodnaaGreat
set_option linter.unusedSimpArgs false
set_option linter.unusedVariables false
set_option maxHeartbeats 600000
open Go.RowKit

theorem size_calls (n : Nat) (hn : n ≤ 20) (w : World) : Calls Tryz.prog 64 #[.int .i64 (n : Int)] w fun e w' => e = .returned (.int .i64 ((2 ^ n : Nat) : Int)) ∧ w = w' := by
  go_enter Tryz.func64, Tryz.ntmps64
  go_wp2
  go_loopg [3, 4] n (fun gk s3 s4 wr => ∃ d : Nat, d + gk = n ∧ s4 = .int .i64 (d : Int) ∧ s3 = .int .i64 ((2 ^ d : Nat) : Int) ∧ w = wr)
  case atStart => exact ⟨0, by omega, rfl, rfl, rfl⟩
  case round =>
    obtain ⟨d, hd, rfl, rfl, rfl⟩ := hrel
    by_cases hlt : d < n
    · have h1 : 2 ^ d ≤ 2 ^ 20 := Nat.pow_le_pow_right (by decide) (by omega)
      have e20 : (2 : Nat) ^ 20 = 1048576 := rfl
      obtain ⟨p, hp⟩ : ∃ p, p = 2 ^ d := ⟨_, rfl⟩
      have hp2 : 2 ^ (d + 1) = 2 * p := by rw [hp, Nat.pow_succ]; omega
      rw [← hp] at h1 ⊢
      rw [e20] at h1
      have HP := Lib.hid hp
      have HP2 := Lib.hid hp2
      clear hp hp2
      go_wp2
      go_roundg (gk - 1)
      case rel => exact ⟨d + 1, by omega, by simp, by rw [HP2.out]; push_cast; congr 1, rfl⟩
      case measure => omega
    · have e : d = n := by omega
      subst e
      go_wp2
      go_ret
      exact ⟨rfl, rfl⟩

end Go.Proofs.YtoeoehbpahodnaaGreat

namespace Go.Proofs.YtoeoehbpahodnaaGreat
set_option linter.unusedSimpArgs false
set_option linter.unusedVariables false
set_option maxHeartbeats 600000
open Go.RowKit

theorem digS_size (k : Int) : (digS k).size = 1 := rfl

end Go.Proofs.YtoeoehbpahodnaaGreat

namespace Go.Proofs.YtoeoehbpahodnaaGreat
set_option linter.unusedSimpArgs false
set_option linter.unusedVariables false
set_option maxHeartbeats 600000

theorem nodup_len : ∀ {a b : List Int}, a.Nodup → (∀ x, x ∈ a → x ∈ b) → a.length ≤ b.length := by
  intro a
  induction a with
  | nil => intro b _ _; exact Nat.zero_le _
  | cons x a ih =>
    intro b hn hs
    have hx : x ∈ b := hs x (List.mem_cons_self)
    have hn2 := List.nodup_cons.1 hn
    have h1 := ih (b := b.erase x) hn2.2 (fun y hy => by
      have hne : y ≠ x := fun e => hn2.1 (e ▸ hy)
      exact (List.mem_erase_of_ne hne).2 (hs y (List.mem_cons_of_mem _ hy)))
    have h2 := List.length_erase_of_mem hx
    have h3 : 0 < b.length := List.length_pos_of_mem hx
    rw [List.length_cons]
    omega

end Go.Proofs.YtoeoehbpahodnaaGreat
