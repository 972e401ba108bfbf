/-
  What an assignment has at levels: Value, clear, free, side; may.
-/
import Derived.Test.YtiacdpoldgfpbaaGreatPHoldsY
namespace Go.Proofs.YtiacdpoldgfpbaaGreat
set_option linter.unusedSimpArgs false
set_option linter.unusedVariables false
set_option maxHeartbeats 600000
open Go.RowKit

theorem and_one_u16 (E : Int) (h0 : 0 ≤ E) (h1 : E ≤ 65535) : bits BinOp.and IntKind.u16 E 1 = E % 2 := by
  obtain ⟨a, rfl⟩ : ∃ a : Nat, E = (a : Int) := ⟨E.toNat, by omega⟩
  have hx : a &&& 1 < 2 ^ 16 := Nat.and_lt_two_pow _ (by omega)
  have hx2 : a &&& 1 = a % 2 := Nat.and_one_is_mod a
  have h1 : (BitVec.ofInt 16 (a : Int)).toNat = a := by
    rw [BitVec.ofInt_natCast, BitVec.toNat_ofNat]; exact Nat.mod_eq_of_lt (by omega)
  have h2 : (BitVec.ofInt 16 ((1 : Nat) : Int)).toNat = 1 := by
    rw [BitVec.ofInt_natCast, BitVec.toNat_ofNat]
  show IntKind.u16.wrap ((BitVec.ofInt 16 (a : Int) &&& BitVec.ofInt 16 ((1 : Nat) : Int)).toNat : Int) = _
  rw [BitVec.toNat_and, h1, h2, IntKind.wrap_u16]
  omega

theorem shr_range {x : Int} (h0 : 0 ≤ x) (h1 : x ≤ 65535) (k : Nat) : 0 ≤ x / 2 ^ k ∧ x / 2 ^ k ≤ 65535 := by
  have hp : (0 : Int) < 2 ^ k := Int.pow_pos (by decide)
  refine ⟨Int.ediv_nonneg h0 (by omega), ?_⟩
  have := Int.ediv_le_self (2 ^ k : Int) h0
  omega

theorem bit_u16 {x : Int} (h0 : 0 ≤ x) (h1 : x ≤ 65535) (k : Int) : (bits BinOp.and IntKind.u16 (x / 2 ^ k.toNat) 1 == 1) = bitB x k := by
  obtain ⟨a, b⟩ := shr_range h0 h1 k.toNat
  rw [and_one_u16 _ a b]
  unfold bitB
  by_cases h : x / 2 ^ k.toNat % 2 = 1
  · rw [decide_eq_true h, h]; rfl
  · rw [decide_eq_false h]; simpa using h

end Go.Proofs.YtiacdpoldgfpbaaGreat
