/-
  The document's Plain and Right (ramageref10), and its Leads.
-/
import Derived.Test.YtimffidpbcflaaaRef
namespace Go.Proofs.Ytimffidpbcflaaa
set_option linter.unusedSimpArgs false
set_option linter.unusedVariables false
set_option maxHeartbeats 600000
open Go.RowKit

theorem refplain_calls (f t a l n : Int) (w : World) (ht1 : 0 ≤ t) (ht2 : t ≤ 255) :
    Calls Try.prog 64 #[.int .u8 f, .agg #[.int .u8 t, .int .u32 a], .int .i64 l, .int .i64 n] w fun r w' => r = .returned (.bool (plainB f ⟨t, a⟩ l n)) ∧ Keeps w w' := by
  go_enter Try.func64, Try.ntmps64
  go_wp2
  all_goals (go_ret; refine ⟨?_, (Keeps.refl _).alloc _⟩)
  all_goals simp_all [plainB, isFormB, mayB]
  all_goals (try omega)


theorem rightB_good (f t b lt la ht ha n : Int) (g1 : 1 ≤ f) (g2 : f ≤ 5) (g3 : 0 ≤ n) (g4 : n ≤ 16) (g5 : t ≤ b) (g6 : b < n) (ha1 : 0 ≤ ha) :
    rightB ⟨f, t, b, ⟨lt, la⟩, ⟨ht, ha⟩⟩ n = if t < b ∧ f ≠ 3 ∧ f ≠ 4 then false else if plainB f ⟨lt, la⟩ (b + 1) n = true ∧ plainB f ⟨ht, ha⟩ (b + 1) n = true then (if f = 2 ∨ f = 4 then decide (0 < ha) else decide (la ≠ ha ∨ lt ≠ ht)) else false := by
  have e1 : isFormB f = true := by simp [isFormB, g1, g2]
  have e2 : mayB n = true := by simp [mayB, g3, g4]
  have e3 : decide (b < t) = false := decide_eq_false (by omega)
  have e4 : decide (n ≤ b) = false := decide_eq_false (by omega)
  have e5 : (t != b && !chainedB f) = decide (t < b ∧ f ≠ 3 ∧ f ≠ 4) := by
    by_cases h1 : t = b
    · have : ¬ t < b := by omega
      simp [h1]
    · have : t < b := by omega
      by_cases h2 : f = 3 <;> by_cases h3 : f = 4 <;> simp [chainedB, h1, h2, h3, this]
  unfold rightB
  dsimp only
  rw [e1, e2, e3, e4, e5]
  by_cases c1 : t < b ∧ f ≠ 3 ∧ f ≠ 4
  · rw [if_pos c1, if_pos (by simp [c1])]
  · rw [if_neg c1, if_neg (by simp; intro x y; exact Classical.byContradiction fun z => c1 ⟨x, y, z⟩)]
    cases plainB f ⟨lt, la⟩ (b + 1) n <;> cases plainB f ⟨ht, ha⟩ (b + 1) n <;> simp
    by_cases c2 : f = 2 ∨ f = 4
    · rw [if_pos c2]
      have e6 : (f = 2 ∨ f = 4) = True := eq_true c2
      simp only [e6, if_true]
      by_cases c3 : ha = 0
      · subst c3; rfl
      · have : 0 < ha := by omega
        simp [c3, this]
    · by_cases x : lt = ht <;> by_cases y : la = ha <;> simp [c2, x, y]

theorem refright_calls (r : Rec) (hr : r.ok) (n : Int) (w : World) :
    Calls Try.prog 99 #[.agg #[.int .u8 r.form, .int .u8 r.top, .int .u8 r.bot, .int .u8 r.lo.tag, .int .u32 r.lo.to, .int .u8 r.hi.tag, .int .u32 r.hi.to], .int .i64 n] w fun e w' => e = .returned (.bool (rightB r n)) ∧ Keeps w w' := by
  obtain ⟨f, t, b, ⟨lt, la⟩, ⟨ht, ha⟩⟩ := r
  obtain ⟨⟨f1, f2⟩, ⟨t1, t2⟩, ⟨b1, b2⟩, ⟨⟨lt1, lt2⟩, la1, la2⟩, ⟨ht1, ht2⟩, ha1, ha2⟩ := hr
  dsimp only at *
  by_cases hbad : (f < 1 ∨ 5 < f) ∨ (n < 0 ∨ 16 < n) ∨ b < t ∨ n ≤ b
  · have hv : rightB ⟨f, t, b, ⟨lt, la⟩, ⟨ht, ha⟩⟩ n = false := by
      unfold rightB
      rw [if_pos]
      simp only [isFormB, mayB, Bool.or_eq_true, Bool.not_eq_true', Bool.and_eq_false_iff, decide_eq_true_eq, decide_eq_false_iff_not]
      omega
    rw [hv]
    have H := Lib.hid hbad
    clear hbad
    go_enter Try.func99, Try.ntmps99
    go_wp2_with fail
    all_goals first | (go_ret; exact ⟨rfl, by (repeat (first | with_reducible exact Keeps.refl _ | with_reducible assumption | with_reducible refine Keeps.alloc ?_ _ | with_reducible refine Keeps.drewN ?_ _ | with_reducible refine Keeps.drew ?_ | refine Keeps.setCell ?_ (by dsimp only; omega) _ | with_reducible refine Keeps.trans ?_ (by assumption)))⟩) | (exfalso; have := H.out; omega)
  · have g1 : 1 ≤ f := by omega
    have g2 : f ≤ 5 := by omega
    have g3 : 0 ≤ n := by omega
    have g4 : n ≤ 16 := by omega
    have g5 : t ≤ b := by omega
    have g6 : b < n := by omega
    clear hbad
    go_enter Try.func99, Try.ntmps99
    go_wp2_with (first | (go_at_call 64; refine (refplain_calls _ _ _ _ _ _ (by omega) (by omega)).mono ?_; rintro e w1 ⟨rfl, hb⟩; have hk : Keeps w w1 := (by (repeat (first | with_reducible exact Keeps.refl _ | with_reducible assumption | with_reducible refine Keeps.alloc ?_ _ | with_reducible refine Keeps.drewN ?_ _ | with_reducible refine Keeps.drew ?_ | refine Keeps.setCell ?_ (by dsimp only; omega) _ | with_reducible refine Keeps.trans ?_ (by assumption)))); obtain ⟨hc, hf⟩ := hb.cells; obtain ⟨hcl, hfl⟩ := hk.cells; have hsz := hb.size; (try simp only [World.size_alloc, World.size_drewN, World.size_drew, World.size_setCell] at hsz); have hsl := hk.size; have hz0 : w.heap.size < w1.heap.size := (by omega)) | fail)
    all_goals (go_ret; refine ⟨?_, by (repeat (first | with_reducible exact Keeps.refl _ | with_reducible assumption | with_reducible refine Keeps.alloc ?_ _ | with_reducible refine Keeps.drewN ?_ _ | with_reducible refine Keeps.drew ?_ | refine Keeps.setCell ?_ (by dsimp only; omega) _ | with_reducible refine Keeps.trans ?_ (by assumption)))⟩)
    all_goals (congr 2; rw [rightB_good f t b lt la ht ha n g1 g2 g3 g4 g5 g6 ha1])
    all_goals simp_all
    all_goals first | rfl | omega | (by_cases z : lt = ht <;> by_cases y : t < b <;> simp [z, y] <;> omega)

end Go.Proofs.Ytimffidpbcflaaa
