/-
  ramageref17.May; the rounds of ramageref17.Holds where a level is left out.
-/
import Derived.Test.YtnkehgohamjpaaaPHoldsE
import Derived.BigRegion
namespace Go.Proofs.Ytnkehgohamjpaaa
set_option linter.unusedSimpArgs false
set_option linter.unusedVariables false
set_option maxHeartbeats 600000
open Go.RowKit

theorem rmay_calls {F : Nat → Prop} {w : World} {sb : Nat} {M : St} {L : List (Int × Rec)} (h : RefRep F w sb M L) (f : Int) (v : Edge) (l : Int) (hv : v.ok) :
    Calls Try.prog 58 #[.pointer (some ⟨sb, 0, none⟩), .int .u8 f, .agg #[.int .u8 v.tag, .int .u32 v.to], .int .i64 l] w fun r w' => r = .returned (.int .i64 (mayC M f v l)) ∧ Keeps w w' := by
  have hld := fun (W : World) (hW : Keeps w W) => ref_leads (h.keeps hW) f v l hv
  have hfc := ris_calls f
  have c3 := h.vars
  have hsb := h.pos
  have hsb1 : sb < w.heap.size + 1 := by omega
  rcases bool_cases (isFormB f) with hb | hb
  · have e : mayC M f v l = 4 := by unfold mayC; rw [if_pos hb]
    rw [e]
    rw [hb] at hfc
    have HFC := Lib.hid hfc
    clear h hld hfc hb e
    go_enter Try.func58, Try.ntmps58
    go_wp2_with (first | (go_at_call 95; refine (HFC.out _).mono ?_; rintro e w' ⟨rfl, rfl⟩) | fail)
    go_ret
    exact ⟨rfl, by (repeat (first | with_reducible exact Keeps.refl _ | with_reducible assumption | with_reducible refine Keeps.alloc ?_ _ | with_reducible refine Keeps.drewN ?_ _ | with_reducible refine Keeps.drew ?_ | refine Keeps.setCell ?_ (by dsimp only; omega) _ | with_reducible refine Keeps.trans ?_ (by assumption)))⟩
  · rw [hb] at hfc
    have HFC := Lib.hid hfc
    clear hfc
    by_cases c1 : l < 0 ∨ M.n < l
    · have e : mayC M f v l = 3 := by unfold mayC; rw [if_neg (by rw [hb]; simp), if_pos c1]
      rw [e]
      clear h hld hb e
      by_cases c0 : l < 0
      · go_enter Try.func58, Try.ntmps58
        go_wp2_with (first | (go_at_call 95; refine (HFC.out _).mono ?_; rintro e w' ⟨rfl, rfl⟩) | fail)
        all_goals go_ret
        all_goals exact ⟨rfl, by (repeat (first | with_reducible exact Keeps.refl _ | with_reducible assumption | with_reducible refine Keeps.alloc ?_ _ | with_reducible refine Keeps.drewN ?_ _ | with_reducible refine Keeps.drew ?_ | refine Keeps.setCell ?_ (by dsimp only; omega) _ | with_reducible refine Keeps.trans ?_ (by assumption)))⟩
      · have c2 : M.n < l := by omega
        go_enter Try.func58, Try.ntmps58
        go_wp2_with (first | (go_at_call 95; refine (HFC.out _).mono ?_; rintro e w' ⟨rfl, rfl⟩) | fail)
        all_goals go_ret
        all_goals exact ⟨rfl, by (repeat (first | with_reducible exact Keeps.refl _ | with_reducible assumption | with_reducible refine Keeps.alloc ?_ _ | with_reducible refine Keeps.drewN ?_ _ | with_reducible refine Keeps.drew ?_ | refine Keeps.setCell ?_ (by dsimp only; omega) _ | with_reducible refine Keeps.trans ?_ (by assumption)))⟩
    · have d0 : ¬ l < 0 := by omega
      have d1 : ¬ M.n < l := by omega
      have e : mayC M f v l = if M.leads f v l = false then 1 else 0 := by unfold mayC; rw [if_neg (by rw [hb]; simp), if_neg c1]
      rw [e]
      obtain ⟨b, hb2⟩ : ∃ b, b = M.leads f v l := ⟨_, rfl⟩
      rw [← hb2] at hld ⊢
      have HLD := Lib.hid hld
      clear h hld hb e c1 hb2
      cases b
      all_goals go_enter Try.func58, Try.ntmps58
      all_goals go_wp2_with (first | (go_at_call 95; refine (HFC.out _).mono ?_; rintro e w' ⟨rfl, rfl⟩) | (go_at_call 25; refine (HLD.out _ (by (repeat (first | with_reducible exact Keeps.refl _ | with_reducible assumption | with_reducible refine Keeps.alloc ?_ _ | with_reducible refine Keeps.drewN ?_ _ | with_reducible refine Keeps.drew ?_ | refine Keeps.setCell ?_ (by dsimp only; omega) _ | with_reducible refine Keeps.trans ?_ (by assumption))))).mono ?_; rintro e w1 ⟨rfl, hk⟩) | fail)
      all_goals go_ret
      all_goals exact ⟨rfl, by (repeat (first | with_reducible exact Keeps.refl _ | with_reducible assumption | with_reducible refine Keeps.alloc ?_ _ | with_reducible refine Keeps.drewN ?_ _ | with_reducible refine Keeps.drew ?_ | refine Keeps.setCell ?_ (by dsimp only; omega) _ | with_reducible refine Keeps.trans ?_ (by assumption)))⟩

set_option maxRecDepth 100000 in
set_option maxHeartbeats 4000000 in
theorem rh_left (sb : Nat) (f l n x : Int) (e : Edge) (b R : Bool) (w : World) (hsb : sb < w.heap.size) (hf : 1 ≤ f ∧ f ≤ 5) (hz : e.to ≠ 0) (ho : e.ok) (hl0 : 0 ≤ l) (hln : l < n) (hn : n ≤ 16) (c3 : w.cell? ⟨sb, 3, none⟩ = some (.int .i64 n))
    (ha : ∀ W, Keeps w W → Calls Try.prog 66 #[.pointer (some ⟨sb, 0, none⟩), .int .u32 e.to] W fun r w' => r = .returned (.int .i64 (-1)) ∧ W = w')
    (hv : ∀ W, Calls Try.prog 96 #[.int .i64 x, .int .i64 l] W fun r w' => r = .returned (.int .i64 (bitI b)) ∧ W = w')
    (hi : ∀ W, Keeps w W → Calls Try.prog 59 #[.pointer (some ⟨sb, 0, none⟩), .int .u8 f, .agg #[.int .u8 e.tag, .int .u32 e.to], .int .i64 (l + 1), .int .i64 x] W fun r w' => r = .returned (.bool R) ∧ Keeps W w') :
    Calls Try.prog 59 #[.pointer (some ⟨sb, 0, none⟩), .int .u8 f, .agg #[.int .u8 e.tag, .int .u32 e.to], .int .i64 l, .int .i64 x] w fun r w' => r = .returned (.bool (if zeroAt f e l && b then false else R)) ∧ Keeps w w' := by
  have t0 : 0 ≤ e.tag := ho.1.1
  have t1 : e.tag ≤ 255 := ho.1.2
  have hp : 0 < e.to := by have := ho.2.1; omega
  have hsb1 : sb < w.heap.size + 1 := by omega
  have hg : ∀ d : Int, l < n := fun _ => hln
  have HA := Lib.hid ha
  have HV := Lib.hid hv
  have HI := Lib.hid hi
  clear ha hv hi hg
  by_cases h1 : f = 1
  · subst h1
    rw [show zeroAt 1 e l = false from rfl]
    cases b
    all_goals (go_enter Try.func59, Try.ntmps59; go_wp2_with (first | (go_at_call 66; refine (HA.out _ (by (repeat (first | with_reducible exact Keeps.refl _ | with_reducible assumption | with_reducible refine Keeps.alloc ?_ _ | with_reducible refine Keeps.drewN ?_ _ | with_reducible refine Keeps.drew ?_ | refine Keeps.setCell ?_ (by dsimp only; omega) _ | with_reducible refine Keeps.trans ?_ (by assumption))))).mono ?_; rintro e2 w2 ⟨rfl, rfl⟩) | (go_at_call 96; refine (HV.out _).mono ?_; rintro e3 w3 ⟨rfl, rfl⟩) | (go_at_call 59; refine (HI.out _ (by (repeat (first | with_reducible exact Keeps.refl _ | with_reducible assumption | with_reducible refine Keeps.alloc ?_ _ | with_reducible refine Keeps.drewN ?_ _ | with_reducible refine Keeps.drew ?_ | refine Keeps.setCell ?_ (by dsimp only; omega) _ | with_reducible refine Keeps.trans ?_ (by assumption))))).mono ?_; rintro e4 w4 ⟨rfl, hk4⟩) | fail); all_goals first | (exfalso; omega) | (go_ret; exact ⟨rfl, by (repeat (first | with_reducible exact Keeps.refl _ | with_reducible assumption | with_reducible refine Keeps.alloc ?_ _ | with_reducible refine Keeps.drewN ?_ _ | with_reducible refine Keeps.drew ?_ | refine Keeps.setCell ?_ (by dsimp only; omega) _ | with_reducible refine Keeps.trans ?_ (by assumption)))⟩))
  · by_cases h2 : f = 2
    · subst h2
      rw [show zeroAt 2 e l = true from rfl]
      cases b
      all_goals (go_enter Try.func59, Try.ntmps59; go_wp2_with (first | (go_at_call 66; refine (HA.out _ (by (repeat (first | with_reducible exact Keeps.refl _ | with_reducible assumption | with_reducible refine Keeps.alloc ?_ _ | with_reducible refine Keeps.drewN ?_ _ | with_reducible refine Keeps.drew ?_ | refine Keeps.setCell ?_ (by dsimp only; omega) _ | with_reducible refine Keeps.trans ?_ (by assumption))))).mono ?_; rintro e2 w2 ⟨rfl, rfl⟩) | (go_at_call 96; refine (HV.out _).mono ?_; rintro e3 w3 ⟨rfl, rfl⟩) | (go_at_call 59; refine (HI.out _ (by (repeat (first | with_reducible exact Keeps.refl _ | with_reducible assumption | with_reducible refine Keeps.alloc ?_ _ | with_reducible refine Keeps.drewN ?_ _ | with_reducible refine Keeps.drew ?_ | refine Keeps.setCell ?_ (by dsimp only; omega) _ | with_reducible refine Keeps.trans ?_ (by assumption))))).mono ?_; rintro e4 w4 ⟨rfl, hk4⟩) | fail); all_goals first | (exfalso; omega) | (go_ret; exact ⟨rfl, by (repeat (first | with_reducible exact Keeps.refl _ | with_reducible assumption | with_reducible refine Keeps.alloc ?_ _ | with_reducible refine Keeps.drewN ?_ _ | with_reducible refine Keeps.drew ?_ | refine Keeps.setCell ?_ (by dsimp only; omega) _ | with_reducible refine Keeps.trans ?_ (by assumption)))⟩))
    · by_cases h3 : f = 3
      · subst h3
        rw [show zeroAt 3 e l = false from rfl]
        cases b
        all_goals (go_enter Try.func59, Try.ntmps59; go_wp2_with (first | (go_at_call 66; refine (HA.out _ (by (repeat (first | with_reducible exact Keeps.refl _ | with_reducible assumption | with_reducible refine Keeps.alloc ?_ _ | with_reducible refine Keeps.drewN ?_ _ | with_reducible refine Keeps.drew ?_ | refine Keeps.setCell ?_ (by dsimp only; omega) _ | with_reducible refine Keeps.trans ?_ (by assumption))))).mono ?_; rintro e2 w2 ⟨rfl, rfl⟩) | (go_at_call 96; refine (HV.out _).mono ?_; rintro e3 w3 ⟨rfl, rfl⟩) | (go_at_call 59; refine (HI.out _ (by (repeat (first | with_reducible exact Keeps.refl _ | with_reducible assumption | with_reducible refine Keeps.alloc ?_ _ | with_reducible refine Keeps.drewN ?_ _ | with_reducible refine Keeps.drew ?_ | refine Keeps.setCell ?_ (by dsimp only; omega) _ | with_reducible refine Keeps.trans ?_ (by assumption))))).mono ?_; rintro e4 w4 ⟨rfl, hk4⟩) | fail); all_goals first | (exfalso; omega) | (go_ret; exact ⟨rfl, by (repeat (first | with_reducible exact Keeps.refl _ | with_reducible assumption | with_reducible refine Keeps.alloc ?_ _ | with_reducible refine Keeps.drewN ?_ _ | with_reducible refine Keeps.drew ?_ | refine Keeps.setCell ?_ (by dsimp only; omega) _ | with_reducible refine Keeps.trans ?_ (by assumption)))⟩))
      · by_cases h4 : f = 4
        · subst h4
          rw [show zeroAt 4 e l = true from rfl]
          cases b
          all_goals (go_enter Try.func59, Try.ntmps59; go_wp2_with (first | (go_at_call 66; refine (HA.out _ (by (repeat (first | with_reducible exact Keeps.refl _ | with_reducible assumption | with_reducible refine Keeps.alloc ?_ _ | with_reducible refine Keeps.drewN ?_ _ | with_reducible refine Keeps.drew ?_ | refine Keeps.setCell ?_ (by dsimp only; omega) _ | with_reducible refine Keeps.trans ?_ (by assumption))))).mono ?_; rintro e2 w2 ⟨rfl, rfl⟩) | (go_at_call 96; refine (HV.out _).mono ?_; rintro e3 w3 ⟨rfl, rfl⟩) | (go_at_call 59; refine (HI.out _ (by (repeat (first | with_reducible exact Keeps.refl _ | with_reducible assumption | with_reducible refine Keeps.alloc ?_ _ | with_reducible refine Keeps.drewN ?_ _ | with_reducible refine Keeps.drew ?_ | refine Keeps.setCell ?_ (by dsimp only; omega) _ | with_reducible refine Keeps.trans ?_ (by assumption))))).mono ?_; rintro e4 w4 ⟨rfl, hk4⟩) | fail); all_goals first | (exfalso; omega) | (go_ret; exact ⟨rfl, by (repeat (first | with_reducible exact Keeps.refl _ | with_reducible assumption | with_reducible refine Keeps.alloc ?_ _ | with_reducible refine Keeps.drewN ?_ _ | with_reducible refine Keeps.drew ?_ | refine Keeps.setCell ?_ (by dsimp only; omega) _ | with_reducible refine Keeps.trans ?_ (by assumption)))⟩))
        · have h5 : f = 5 := by omega
          subst h5
          by_cases ht : e.tag ≤ l
          · rw [show zeroAt 5 e l = true by unfold zeroAt; rw [decide_eq_true ht]; rfl]
            cases b
            all_goals (go_enter Try.func59, Try.ntmps59; go_wp2_with (first | (go_at_call 66; refine (HA.out _ (by (repeat (first | with_reducible exact Keeps.refl _ | with_reducible assumption | with_reducible refine Keeps.alloc ?_ _ | with_reducible refine Keeps.drewN ?_ _ | with_reducible refine Keeps.drew ?_ | refine Keeps.setCell ?_ (by dsimp only; omega) _ | with_reducible refine Keeps.trans ?_ (by assumption))))).mono ?_; rintro e2 w2 ⟨rfl, rfl⟩) | (go_at_call 96; refine (HV.out _).mono ?_; rintro e3 w3 ⟨rfl, rfl⟩) | (go_at_call 59; refine (HI.out _ (by (repeat (first | with_reducible exact Keeps.refl _ | with_reducible assumption | with_reducible refine Keeps.alloc ?_ _ | with_reducible refine Keeps.drewN ?_ _ | with_reducible refine Keeps.drew ?_ | refine Keeps.setCell ?_ (by dsimp only; omega) _ | with_reducible refine Keeps.trans ?_ (by assumption))))).mono ?_; rintro e4 w4 ⟨rfl, hk4⟩) | fail); all_goals first | (exfalso; omega) | (go_ret; exact ⟨rfl, by (repeat (first | with_reducible exact Keeps.refl _ | with_reducible assumption | with_reducible refine Keeps.alloc ?_ _ | with_reducible refine Keeps.drewN ?_ _ | with_reducible refine Keeps.drew ?_ | refine Keeps.setCell ?_ (by dsimp only; omega) _ | with_reducible refine Keeps.trans ?_ (by assumption)))⟩))
          · rw [show zeroAt 5 e l = false by unfold zeroAt; rw [decide_eq_false ht]; rfl]
            cases b
            all_goals (go_enter Try.func59, Try.ntmps59; go_wp2_with (first | (go_at_call 66; refine (HA.out _ (by (repeat (first | with_reducible exact Keeps.refl _ | with_reducible assumption | with_reducible refine Keeps.alloc ?_ _ | with_reducible refine Keeps.drewN ?_ _ | with_reducible refine Keeps.drew ?_ | refine Keeps.setCell ?_ (by dsimp only; omega) _ | with_reducible refine Keeps.trans ?_ (by assumption))))).mono ?_; rintro e2 w2 ⟨rfl, rfl⟩) | (go_at_call 96; refine (HV.out _).mono ?_; rintro e3 w3 ⟨rfl, rfl⟩) | (go_at_call 59; refine (HI.out _ (by (repeat (first | with_reducible exact Keeps.refl _ | with_reducible assumption | with_reducible refine Keeps.alloc ?_ _ | with_reducible refine Keeps.drewN ?_ _ | with_reducible refine Keeps.drew ?_ | refine Keeps.setCell ?_ (by dsimp only; omega) _ | with_reducible refine Keeps.trans ?_ (by assumption))))).mono ?_; rintro e4 w4 ⟨rfl, hk4⟩) | fail); all_goals first | (exfalso; omega) | (go_ret; exact ⟨rfl, by (repeat (first | with_reducible exact Keeps.refl _ | with_reducible assumption | with_reducible refine Keeps.alloc ?_ _ | with_reducible refine Keeps.drewN ?_ _ | with_reducible refine Keeps.drew ?_ | refine Keeps.setCell ?_ (by dsimp only; omega) _ | with_reducible refine Keeps.trans ?_ (by assumption)))⟩))

end Go.Proofs.Ytnkehgohamjpaaa
