/-
  Texts: the digits, the tags; the same tables; no 1 in a table.
-/
import Derived.Test.YtacanmmkhbdmlaaPReachB
import Derived.Laws.BytesArg
namespace Go.Proofs.Ytacanmmkhbdmlaa
set_option linter.unusedSimpArgs false
set_option linter.unusedVariables false
set_option maxHeartbeats 600000
open Go.RowKit

/-- A digit's text. -/
def digS (k : Int) : ByteArray := strOfNums [48 + k]

set_option maxRecDepth 100000 in
theorem num_calls (k : Int) (w : World) (h0 : 0 ≤ k) (h1 : k < 10) : Calls Try.prog 66 #[.int .i64 k] w fun e w' => e = .returned (.string (digS k)) ∧ Keeps w w' := by
  have hcv := run_convert_bytes_arg (P := Try.prog) (w.alloc (.cells #[.int .u8 (48 + k)] 5)) 130 5 rfl rfl w.heap.size 0 1 1 [48 + k] rfl (fun i hi => by
    have hi0 : i = 0 := by omega
    subst hi0
    simp) 9 rfl
  go_enter Try.func66, Try.ntmps66
  go_wp2
  go_ret
  exact ⟨rfl, by (repeat (first | with_reducible exact Keeps.refl _ | with_reducible assumption | with_reducible refine Keeps.alloc ?_ _ | with_reducible refine Keeps.drewN ?_ _ | with_reducible refine Keeps.drew ?_ | refine Keeps.setCell ?_ (by dsimp only; omega) _ | with_reducible refine Keeps.trans ?_ (by assumption)))⟩

/-- The texts that the terms are made of. -/
def strS (s : String) : ByteArray := s.toUTF8

theorem tag_calls (k : Int) (w : World) (h0 : 0 ≤ k) (h1 : k < 10) : Calls Try.prog 65 #[.int .i64 k] w fun e w' => e = .returned (.string (digS k ++ ⟨#[64]⟩)) ∧ Keeps w w' := by
  have HN := Lib.hid (fun W => num_calls k W h0 h1)
  go_enter Try.func65, Try.ntmps65
  go_wp2_with (first | (go_at_call 66; refine (HN.out _).mono ?_; rintro e w1 ⟨rfl, hk⟩) | fail)
  go_ret
  exact ⟨rfl, by (repeat (first | with_reducible exact Keeps.refl _ | with_reducible assumption | with_reducible refine Keeps.alloc ?_ _ | with_reducible refine Keeps.drewN ?_ _ | with_reducible refine Keeps.drew ?_ | refine Keeps.setCell ?_ (by dsimp only; omega) _ | with_reducible refine Keeps.trans ?_ (by assumption)))⟩

/-- Is a part of a table without a 1? -/
def noneB (bs : List Bool) (off n : Nat) : Bool := !((bs.drop off).take n).any id

end Go.Proofs.Ytacanmmkhbdmlaa
