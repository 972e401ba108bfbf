/-
  law17.Unfold and ramageref17.Term of any form (printed by wip/mk_kunf.py).
-/
import Derived.Test.YtoeoehbpahodnaaGreatPSmallA
import Derived.Test.YtoeoehbpahodnaaGreatPTermAxB
namespace Go.Proofs.YtoeoehbpahodnaaGreat
set_option linter.unusedSimpArgs false
set_option linter.unusedVariables false
set_option maxHeartbeats 600000
open Go.RowKit

set_option maxRecDepth 100000 in
theorem kterm_B (B off p cap : Nat) (l : Int) (x : ByteArray) (w : World) (hc : ∀ W, Keeps w W → Calls Tryz.prog 209 #[.slice (some ⟨B, off, none⟩) p cap, .int .i64 l] W fun r w' => r = .returned (.string x) ∧ Keeps W w') :
    Calls Tryz.prog 141 #[.int .u8 1, .slice (some ⟨B, off, none⟩) p cap, .int .i64 l] w fun r w' => r = .returned (.string x) ∧ Keeps w w' := by
  have H := Lib.hid hc
  clear hc
  go_enter Tryz.func141, Tryz.ntmps141
  go_wp2_with (first | (go_at_call 209; refine (H.out _ (by (exact kp))).mono ?_; rintro r w1 ⟨rfl, hk⟩) | fail)
  go_ret
  exact ⟨rfl, by (exact kp)⟩

set_option maxRecDepth 100000 in
theorem kterm_Z (B off p cap : Nat) (l : Int) (x : ByteArray) (w : World) (hc : ∀ W, Keeps w W → Calls Tryz.prog 210 #[.slice (some ⟨B, off, none⟩) p cap, .int .i64 l] W fun r w' => r = .returned (.string x) ∧ Keeps W w') :
    Calls Tryz.prog 141 #[.int .u8 2, .slice (some ⟨B, off, none⟩) p cap, .int .i64 l] w fun r w' => r = .returned (.string x) ∧ Keeps w w' := by
  have H := Lib.hid hc
  clear hc
  go_enter Tryz.func141, Tryz.ntmps141
  go_wp2_with (first | (go_at_call 210; refine (H.out _ (by (exact kp))).mono ?_; rintro r w1 ⟨rfl, hk⟩) | fail)
  go_ret
  exact ⟨rfl, by (exact kp)⟩

set_option maxRecDepth 100000 in
theorem kterm_C (B off p cap : Nat) (l : Int) (x : ByteArray) (w : World) (hc : ∀ W, Keeps w W → Calls Tryz.prog 211 #[.slice (some ⟨B, off, none⟩) p cap, .int .i64 l] W fun r w' => r = .returned (.string x) ∧ Keeps W w') :
    Calls Tryz.prog 141 #[.int .u8 3, .slice (some ⟨B, off, none⟩) p cap, .int .i64 l] w fun r w' => r = .returned (.string x) ∧ Keeps w w' := by
  have H := Lib.hid hc
  clear hc
  go_enter Tryz.func141, Tryz.ntmps141
  go_wp2_with (first | (go_at_call 211; refine (H.out _ (by (exact kp))).mono ?_; rintro r w1 ⟨rfl, hk⟩) | fail)
  go_ret
  exact ⟨rfl, by (exact kp)⟩

set_option maxRecDepth 100000 in
theorem kterm_Q (B off p cap : Nat) (l : Int) (x : ByteArray) (w : World) (hc : ∀ W, Keeps w W → Calls Tryz.prog 212 #[.slice (some ⟨B, off, none⟩) p cap, .int .i64 l] W fun r w' => r = .returned (.string x) ∧ Keeps W w') :
    Calls Tryz.prog 141 #[.int .u8 4, .slice (some ⟨B, off, none⟩) p cap, .int .i64 l] w fun r w' => r = .returned (.string x) ∧ Keeps w w' := by
  have H := Lib.hid hc
  clear hc
  go_enter Tryz.func141, Tryz.ntmps141
  go_wp2_with (first | (go_at_call 212; refine (H.out _ (by (exact kp))).mono ?_; rintro r w1 ⟨rfl, hk⟩) | fail)
  go_ret
  exact ⟨rfl, by (exact kp)⟩

set_option maxRecDepth 100000 in
theorem kterm_T (B off p cap : Nat) (l : Int) (x : ByteArray) (w : World) (hc : ∀ W, Keeps w W → Calls Tryz.prog 213 #[.slice (some ⟨B, off, none⟩) p cap, .int .i64 l] W fun r w' => r = .returned (.string x) ∧ Keeps W w') :
    Calls Tryz.prog 141 #[.int .u8 5, .slice (some ⟨B, off, none⟩) p cap, .int .i64 l] w fun r w' => r = .returned (.string x) ∧ Keeps w w' := by
  have H := Lib.hid hc
  clear hc
  go_enter Tryz.func141, Tryz.ntmps141
  go_wp2_with (first | (go_at_call 213; refine (H.out _ (by (exact kp))).mono ?_; rintro r w1 ⟨rfl, hk⟩) | fail)
  go_ret
  exact ⟨rfl, by (exact kp)⟩

theorem termK_calls {B : Nat} (f : Int) (hf : 1 ≤ f ∧ f ≤ 5) (k : Nat) (hk : k ≤ 9) (off cap : Nat) (ts : List Bool) (l : Int) (w : World) (h : TabAt w B off ts) (hl : ts.length = 2 ^ k) (hc : 2 ^ k ≤ cap) (hc2 : cap ≤ 4096) (h0 : 0 ≤ l) (h9 : l + (k : Nat) < 10) :
    Calls Tryz.prog 141 #[.int .u8 f, .slice (some ⟨B, off, none⟩) (2 ^ k) cap, .int .i64 l] w fun e w' => e = .returned (.string (termK f k ts l)) ∧ Keeps w w' := by
  rcases form_cases hf with rfl | rfl | rfl | rfl | rfl
  · exact kterm_B B off _ cap l _ w (fun W hW => termB_calls k hk off cap ts l W (h.keeps hW) hl hc hc2 h0 (by omega))
  · exact kterm_Z B off _ cap l _ w (fun W hW => termZ_calls k hk off cap ts l W (h.keeps hW) hl hc hc2 h0 (by omega))
  · exact kterm_C B off _ cap l _ w (fun W hW => termC_calls (k + 1) (by omega) k (by omega) hk off cap ts l W (h.keeps hW) hl hc hc2 h0 (by omega))
  · exact kterm_Q B off _ cap l _ w (fun W hW => termQ_calls (k + 1) (by omega) k (by omega) hk off cap ts l W (h.keeps hW) hl hc hc2 h0 (by omega))
  · exact kterm_T B off _ cap l _ w (fun W hW => termT_calls (k + 1) (by omega) k (by omega) hk off cap ts l W (h.keeps hW) hl hc hc2 h0 (by omega))

end Go.Proofs.YtoeoehbpahodnaaGreat
