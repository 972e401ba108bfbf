/-
  ramageref06.Same over rows of ids; how many ids are reached.
-/
import Derived.Test.YtacanmmkhbdmlaaPIds06
import Derived.Test.YtacanmmkhbdmlaaPIdsP
import Derived.Test.YtacanmmkhbdmlaaPReachA
namespace Go.Proofs.Ytacanmmkhbdmlaa
set_option linter.unusedSimpArgs false
set_option linter.unusedVariables false
set_option maxHeartbeats 600000
open Go.RowKit

set_option maxRecDepth 100000 in
theorem same06_row {w : World} {v v2 : Value} {ss ts : List Int} (h1 : IdRow w v ss) (h2 : IdRow w v2 ts) (hl1 : ss.length ≤ 1048576) (hl2 : ts.length ≤ 1048576) :
    Calls Try.prog 47 #[v, v2] w fun e w' => e = .returned (.bool (sameI ss ts)) ∧ Keeps w w' := by
  obtain ⟨a, cap, rfl, ha⟩ := h1
  obtain ⟨a2, cap2, rfl, ha2⟩ := h2
  by_cases hne : ss.length = ts.length
  · cases ss with
    | nil =>
      obtain rfl : ts = [] := List.length_eq_zero_iff.1 hne.symm
      show Calls _ _ #[.slice a 0 cap, .slice a2 0 cap2] w fun e w' => e = .returned (.bool true) ∧ Keeps w w'
      go_enter Try.func47, Try.ntmps47
      go_wp2
      go_loopg [5] 0 (fun gk s5 wr => s5 = .int .i64 0 ∧ Keeps w wr)
      case atStart => exact ⟨rfl, by (repeat (first | with_reducible exact Keeps.refl _ | with_reducible assumption | with_reducible refine Keeps.alloc ?_ _ | with_reducible refine Keeps.drewN ?_ _ | with_reducible refine Keeps.drew ?_ | refine Keeps.setCell ?_ (by dsimp only; omega) _ | with_reducible refine Keeps.trans ?_ (by assumption)))⟩
      case round =>
        obtain ⟨rfl, hk⟩ := hrel
        go_wp2
        go_ret
        exact ⟨rfl, hk⟩
    | cons x ss =>
      cases ts with
      | nil => simp at hne
      | cons y ts =>
        obtain ⟨g, rfl, _⟩ := ha 0 x rfl
        obtain ⟨g2, rfl, _⟩ := ha2 0 y rfl
        refine same06_calls cap cap2 w (fun i b hb => ?_) (fun i b hb => ?_) hl1 hl2
        · obtain ⟨g', e, hc⟩ := ha i b hb
          cases e
          rw [Nat.zero_add]
          exact hc
        · obtain ⟨g', e, hc⟩ := ha2 i b hb
          cases e
          rw [Nat.zero_add]
          exact hc
  · have hf := sameI_len hne
    obtain ⟨N, hN⟩ : ∃ N, N = ss.length := ⟨_, rfl⟩
    obtain ⟨K, hK⟩ : ∃ K, K = ts.length := ⟨_, rfl⟩
    rw [hf]
    rw [← hN, ← hK] at hne ⊢
    have gne : ((N : Int) != (K : Int)) = true := by simp; omega
    clear ha ha2 hl1 hl2 hN hK hf hne
    go_enter Try.func47, Try.ntmps47
    go_wp2
    go_ret
    exact ⟨rfl, by (repeat (first | with_reducible exact Keeps.refl _ | with_reducible assumption | with_reducible refine Keeps.alloc ?_ _ | with_reducible refine Keeps.drewN ?_ _ | with_reducible refine Keeps.drew ?_ | refine Keeps.setCell ?_ (by dsimp only; omega) _ | with_reducible refine Keeps.trans ?_ (by assumption)))⟩

theorem reachL_few {F : Nat → Prop} {w : World} {sb : Nat} {M : St} (h : StoreRep F w sb M) (rs : List Int) : (reachL M.cs rs).length ≤ 1048576 := by
  have h1 : (reachL M.cs rs).length ≤ (idsL M.cs).length := nodup_len (rising_nodup (reachL_rising _ _)) (fun x hx => idsL_mem.2 (mem_reachL.1 hx).some)
  have h2 : (idsL M.cs).length ≤ M.cs.length := by
    unfold idsL
    rw [idsFrom_len]
    exact List.length_filter_le _ _
  obtain ⟨⟨ab, ib, ts, Fa, Fi, _, q2, _⟩, _⟩ := h
  have := q2.few
  omega

end Go.Proofs.Ytacanmmkhbdmlaa
