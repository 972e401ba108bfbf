/-
  The texts of diagrams (printed by wip/mk_unfold.py).
-/
import Derived.Test.YtiacdpoldgfpbaaPForeA
import Derived.Test.YtiacdpoldgfpbaaPLeadsA
import Derived.Test.YtiacdpoldgfpbaaPStA
import Derived.Test.YtiacdpoldgfpbaaPTextsA
import Derived.IntWalk
namespace Go.Proofs.Ytiacdpoldgfpbaa
set_option linter.unusedSimpArgs false
set_option linter.unusedVariables false
set_option maxHeartbeats 600000
open Go.RowKit

/-- A diagram's text, at most so deep. -/
def unfS (f : Int) (M : St) : Nat → Edge → ByteArray
  | 0, _ => ⟨#[63]⟩
  | n + 1, e =>
    if f = 5 then
      if e.to = 0 then ⟨#[48]⟩ else if e.to = 1 then digS e.tag ++ ⟨#[64]⟩ ++ ⟨#[49]⟩
      else digS e.tag ++ ⟨#[64]⟩ ++ ⟨#[40]⟩ ++ digS (grec (look M.cs e.to)).top ++ ⟨#[32]⟩ ++ unfS f M n (grec (look M.cs e.to)).lo ++ ⟨#[32]⟩ ++ unfS f M n (grec (look M.cs e.to)).hi ++ ⟨#[41]⟩
    else if e.to < 2 then digS e.to
    else if f = 3 ∨ f = 4 then ⟨#[40]⟩ ++ digS (grec (look M.cs e.to)).top ++ ⟨#[58]⟩ ++ digS (grec (look M.cs e.to)).bot ++ ⟨#[32]⟩ ++ unfS f M n (grec (look M.cs e.to)).lo ++ ⟨#[32]⟩ ++ unfS f M n (grec (look M.cs e.to)).hi ++ ⟨#[41]⟩
    else ⟨#[40]⟩ ++ digS (grec (look M.cs e.to)).top ++ ⟨#[32]⟩ ++ unfS f M n (grec (look M.cs e.to)).lo ++ ⟨#[32]⟩ ++ unfS f M n (grec (look M.cs e.to)).hi ++ ⟨#[41]⟩

theorem digS_size (k : Int) : (digS k).size = 1 := rfl

theorem unfS_size (f : Int) (M : St) : ∀ (n : Nat) (e : Edge), (unfS f M n e).size + 7 ≤ 8 * 2 ^ n := by
  intro n
  induction n with
  | zero => intro e; exact Nat.le_refl 8
  | succ n ih =>
    intro e
    have h1 := ih (grec (look M.cs e.to)).lo
    have h2 := ih (grec (look M.cs e.to)).hi
    have hp : 0 < 2 ^ n := Nat.pow_pos (by decide)
    have e2 : 2 ^ (n + 1) = 2 * 2 ^ n := by rw [Nat.pow_succ]; omega
    rw [e2]
    unfold unfS
    split
    · split
      · show 1 + 7 ≤ _; omega
      · split
        · simp only [ByteArray.size_append, digS_size]; show 1 + 1 + 1 + 7 ≤ _; omega
        · simp only [ByteArray.size_append, digS_size]
          show 1 + 1 + 1 + 1 + 1 + _ + 1 + _ + 1 + 7 ≤ _
          omega
    · split
      · rw [digS_size]; omega
      · split
        · simp only [ByteArray.size_append, digS_size]
          show 1 + 1 + 1 + 1 + 1 + _ + 1 + _ + 1 + 7 ≤ _
          omega
        · simp only [ByteArray.size_append, digS_size]
          show 1 + 1 + 1 + _ + 1 + _ + 1 + 7 ≤ _
          omega

theorem unfS_few (f : Int) (M : St) {n : Nat} (hn : n ≤ 20) (e : Edge) : (unfS f M n e).size ≤ 8388608 := by
  have h := unfS_size f M n e
  have h1 : 2 ^ n ≤ 2 ^ 20 := Nat.pow_le_pow_right (by decide) hn
  have h2 : (2 : Nat) ^ 20 = 1048576 := rfl
  omega

theorem grec_small {M : St} (h : M.wf) (hn : M.n ≤ 9) (id : Int) : (grec (look M.cs id)).top < 10 ∧ (grec (look M.cs id)).bot < 10 := by
  cases hl : look M.cs id with
  | none => exact ⟨by decide, by decide⟩
  | some r =>
    have := (h.goodRec hl).tb
    have := (h.goodRec hl).bn
    show r.top < 10 ∧ r.bot < 10
    omega

end Go.Proofs.Ytiacdpoldgfpbaa
