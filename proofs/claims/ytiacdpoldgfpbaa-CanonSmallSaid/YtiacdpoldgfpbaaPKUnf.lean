/-
  law17.Unfold and ramageref17.Term of any form (printed by wip/mk_kunf.py).
-/
import Derived.Test.YtiacdpoldgfpbaaPTermA
import Derived.Test.YtiacdpoldgfpbaaPTwoA
import Derived.Test.YtiacdpoldgfpbaaPUnfA
namespace Go.Proofs.Ytiacdpoldgfpbaa
set_option linter.unusedSimpArgs false
set_option linter.unusedVariables false
set_option maxHeartbeats 600000
open Go.RowKit

/-- The term of a table, of any form. -/
def termK (f : Int) (k : Nat) (ts : List Bool) (l : Int) : ByteArray :=
  if f = 1 then termB k ts l else if f = 2 then termZ k ts l else if f = 3 then termC (k + 1) k ts l else if f = 4 then termQ (k + 1) k ts l else termT (k + 1) k ts l

theorem form_cases {f : Int} (hf : 1 ≤ f ∧ f ≤ 5) : f = 1 ∨ f = 2 ∨ f = 3 ∨ f = 4 ∨ f = 5 := by omega

/-- What an edge that was made unfolds to is its table's term. -/
theorem twoK {f : Int} {M : St} (hw : M.wf) (hf : 1 ≤ f ∧ f ≤ 5) {k : Nat} {ts : List Bool} {l : Int} {e : Edge} (h : IsT f M k ts l e) (hl : l + (k : Nat) = M.n) (h0 : 0 ≤ l) (m : Nat) (hm : k ≤ m) : unfS f M (m + 1) e = termK f k ts l := by
  rcases form_cases hf with rfl | rfl | rfl | rfl | rfl
  · exact two1 hw k ts l e h m hm
  · exact two2 k ts l e h m hm
  · exact two3 hw k ts l e h hl m k hm (Nat.le_refl _)
  · exact two4 hw k ts l e h hl m k hm (Nat.le_refl _)
  · exact two5 hw k ts l e h hl h0 m k hm (Nat.le_refl _)

set_option maxRecDepth 100000 in
theorem kterm_B (B off p cap : Nat) (l : Int) (x : ByteArray) (w : World) (hc : ∀ W, Keeps w W → Calls Try.prog 120 #[.slice (some ⟨B, off, none⟩) p cap, .int .i64 l] W fun r w' => r = .returned (.string x) ∧ Keeps W w') :
    Calls Try.prog 80 #[.int .u8 1, .slice (some ⟨B, off, none⟩) p cap, .int .i64 l] w fun r w' => r = .returned (.string x) ∧ Keeps w w' := by
  have H := Lib.hid hc
  clear hc
  go_enter Try.func80, Try.ntmps80
  go_wp2_with (first | (go_at_call 120; refine (H.out _ (by (repeat (first | with_reducible exact Keeps.refl _ | with_reducible assumption | with_reducible refine Keeps.alloc ?_ _ | with_reducible refine Keeps.drewN ?_ _ | with_reducible refine Keeps.drew ?_ | refine Keeps.setCell ?_ (by dsimp only; omega) _ | with_reducible refine Keeps.trans ?_ (by assumption))))).mono ?_; rintro r w1 ⟨rfl, hk⟩) | fail)
  go_ret
  exact ⟨rfl, by (repeat (first | with_reducible exact Keeps.refl _ | with_reducible assumption | with_reducible refine Keeps.alloc ?_ _ | with_reducible refine Keeps.drewN ?_ _ | with_reducible refine Keeps.drew ?_ | refine Keeps.setCell ?_ (by dsimp only; omega) _ | with_reducible refine Keeps.trans ?_ (by assumption)))⟩

set_option maxRecDepth 100000 in
theorem kterm_Z (B off p cap : Nat) (l : Int) (x : ByteArray) (w : World) (hc : ∀ W, Keeps w W → Calls Try.prog 121 #[.slice (some ⟨B, off, none⟩) p cap, .int .i64 l] W fun r w' => r = .returned (.string x) ∧ Keeps W w') :
    Calls Try.prog 80 #[.int .u8 2, .slice (some ⟨B, off, none⟩) p cap, .int .i64 l] w fun r w' => r = .returned (.string x) ∧ Keeps w w' := by
  have H := Lib.hid hc
  clear hc
  go_enter Try.func80, Try.ntmps80
  go_wp2_with (first | (go_at_call 121; refine (H.out _ (by (repeat (first | with_reducible exact Keeps.refl _ | with_reducible assumption | with_reducible refine Keeps.alloc ?_ _ | with_reducible refine Keeps.drewN ?_ _ | with_reducible refine Keeps.drew ?_ | refine Keeps.setCell ?_ (by dsimp only; omega) _ | with_reducible refine Keeps.trans ?_ (by assumption))))).mono ?_; rintro r w1 ⟨rfl, hk⟩) | fail)
  go_ret
  exact ⟨rfl, by (repeat (first | with_reducible exact Keeps.refl _ | with_reducible assumption | with_reducible refine Keeps.alloc ?_ _ | with_reducible refine Keeps.drewN ?_ _ | with_reducible refine Keeps.drew ?_ | refine Keeps.setCell ?_ (by dsimp only; omega) _ | with_reducible refine Keeps.trans ?_ (by assumption)))⟩

set_option maxRecDepth 100000 in
theorem kterm_C (B off p cap : Nat) (l : Int) (x : ByteArray) (w : World) (hc : ∀ W, Keeps w W → Calls Try.prog 122 #[.slice (some ⟨B, off, none⟩) p cap, .int .i64 l] W fun r w' => r = .returned (.string x) ∧ Keeps W w') :
    Calls Try.prog 80 #[.int .u8 3, .slice (some ⟨B, off, none⟩) p cap, .int .i64 l] w fun r w' => r = .returned (.string x) ∧ Keeps w w' := by
  have H := Lib.hid hc
  clear hc
  go_enter Try.func80, Try.ntmps80
  go_wp2_with (first | (go_at_call 122; refine (H.out _ (by (repeat (first | with_reducible exact Keeps.refl _ | with_reducible assumption | with_reducible refine Keeps.alloc ?_ _ | with_reducible refine Keeps.drewN ?_ _ | with_reducible refine Keeps.drew ?_ | refine Keeps.setCell ?_ (by dsimp only; omega) _ | with_reducible refine Keeps.trans ?_ (by assumption))))).mono ?_; rintro r w1 ⟨rfl, hk⟩) | fail)
  go_ret
  exact ⟨rfl, by (repeat (first | with_reducible exact Keeps.refl _ | with_reducible assumption | with_reducible refine Keeps.alloc ?_ _ | with_reducible refine Keeps.drewN ?_ _ | with_reducible refine Keeps.drew ?_ | refine Keeps.setCell ?_ (by dsimp only; omega) _ | with_reducible refine Keeps.trans ?_ (by assumption)))⟩

set_option maxRecDepth 100000 in
theorem kterm_Q (B off p cap : Nat) (l : Int) (x : ByteArray) (w : World) (hc : ∀ W, Keeps w W → Calls Try.prog 123 #[.slice (some ⟨B, off, none⟩) p cap, .int .i64 l] W fun r w' => r = .returned (.string x) ∧ Keeps W w') :
    Calls Try.prog 80 #[.int .u8 4, .slice (some ⟨B, off, none⟩) p cap, .int .i64 l] w fun r w' => r = .returned (.string x) ∧ Keeps w w' := by
  have H := Lib.hid hc
  clear hc
  go_enter Try.func80, Try.ntmps80
  go_wp2_with (first | (go_at_call 123; refine (H.out _ (by (repeat (first | with_reducible exact Keeps.refl _ | with_reducible assumption | with_reducible refine Keeps.alloc ?_ _ | with_reducible refine Keeps.drewN ?_ _ | with_reducible refine Keeps.drew ?_ | refine Keeps.setCell ?_ (by dsimp only; omega) _ | with_reducible refine Keeps.trans ?_ (by assumption))))).mono ?_; rintro r w1 ⟨rfl, hk⟩) | fail)
  go_ret
  exact ⟨rfl, by (repeat (first | with_reducible exact Keeps.refl _ | with_reducible assumption | with_reducible refine Keeps.alloc ?_ _ | with_reducible refine Keeps.drewN ?_ _ | with_reducible refine Keeps.drew ?_ | refine Keeps.setCell ?_ (by dsimp only; omega) _ | with_reducible refine Keeps.trans ?_ (by assumption)))⟩

set_option maxRecDepth 100000 in
theorem kterm_T (B off p cap : Nat) (l : Int) (x : ByteArray) (w : World) (hc : ∀ W, Keeps w W → Calls Try.prog 124 #[.slice (some ⟨B, off, none⟩) p cap, .int .i64 l] W fun r w' => r = .returned (.string x) ∧ Keeps W w') :
    Calls Try.prog 80 #[.int .u8 5, .slice (some ⟨B, off, none⟩) p cap, .int .i64 l] w fun r w' => r = .returned (.string x) ∧ Keeps w w' := by
  have H := Lib.hid hc
  clear hc
  go_enter Try.func80, Try.ntmps80
  go_wp2_with (first | (go_at_call 124; refine (H.out _ (by (repeat (first | with_reducible exact Keeps.refl _ | with_reducible assumption | with_reducible refine Keeps.alloc ?_ _ | with_reducible refine Keeps.drewN ?_ _ | with_reducible refine Keeps.drew ?_ | refine Keeps.setCell ?_ (by dsimp only; omega) _ | with_reducible refine Keeps.trans ?_ (by assumption))))).mono ?_; rintro r w1 ⟨rfl, hk⟩) | fail)
  go_ret
  exact ⟨rfl, by (repeat (first | with_reducible exact Keeps.refl _ | with_reducible assumption | with_reducible refine Keeps.alloc ?_ _ | with_reducible refine Keeps.drewN ?_ _ | with_reducible refine Keeps.drew ?_ | refine Keeps.setCell ?_ (by dsimp only; omega) _ | with_reducible refine Keeps.trans ?_ (by assumption)))⟩

theorem termK_calls {B : Nat} (f : Int) (hf : 1 ≤ f ∧ f ≤ 5) (k : Nat) (hk : k ≤ 9) (off cap : Nat) (ts : List Bool) (l : Int) (w : World) (h : TabAt w B off ts) (hl : ts.length = 2 ^ k) (hc : 2 ^ k ≤ cap) (hc2 : cap ≤ 4096) (h0 : 0 ≤ l) (h9 : l + (k : Nat) < 10) :
    Calls Try.prog 80 #[.int .u8 f, .slice (some ⟨B, off, none⟩) (2 ^ k) cap, .int .i64 l] w fun e w' => e = .returned (.string (termK f k ts l)) ∧ Keeps w w' := by
  rcases form_cases hf with rfl | rfl | rfl | rfl | rfl
  · exact kterm_B B off _ cap l _ w (fun W hW => termB_calls k hk off cap ts l W (h.keeps hW) hl hc hc2 h0 (by omega))
  · exact kterm_Z B off _ cap l _ w (fun W hW => termZ_calls k hk off cap ts l W (h.keeps hW) hl hc hc2 h0 (by omega))
  · exact kterm_C B off _ cap l _ w (fun W hW => termC_calls (k + 1) (by omega) k (by omega) hk off cap ts l W (h.keeps hW) hl hc hc2 h0 (by omega))
  · exact kterm_Q B off _ cap l _ w (fun W hW => termQ_calls (k + 1) (by omega) k (by omega) hk off cap ts l W (h.keeps hW) hl hc hc2 h0 (by omega))
  · exact kterm_T B off _ cap l _ w (fun W hW => termT_calls (k + 1) (by omega) k (by omega) hk off cap ts l W (h.keeps hW) hl hc hc2 h0 (by omega))

end Go.Proofs.Ytiacdpoldgfpbaa
