/-
  The round of ramageref17.Holds at a record of the level.
-/
import Derived.Test.YtnkehgohamjpaaaPHoldsF
namespace Go.Proofs.Ytnkehgohamjpaaa
set_option linter.unusedSimpArgs false
set_option linter.unusedVariables false
set_option maxHeartbeats 600000
open Go.RowKit

set_option maxRecDepth 100000 in
set_option maxHeartbeats 4000000 in
theorem rh_node (sb : Nat) (f n x : Int) (e : Edge) (r : Rec) (R : Bool) (w : World) (hsb : sb < w.heap.size) (hff : r.form = f) (hz : e.to ≠ 0) (ho : e.ok) (hro : r.ok) (htb : r.top ≤ r.bot) (hbn : r.bot < n) (hn : n ≤ 16) (c3 : w.cell? ⟨sb, 3, none⟩ = some (.int .i64 n))
    (lb D len cap : Nat) (c0 : w.cell? ⟨sb, 0, none⟩ = some (.slice (some ⟨lb, 0, none⟩) len cap)) (hD : D < len) (hlen : len ≤ 1048576)
    (s0 : w.cell? ⟨lb, D * 8 + 1, none⟩ = some (.int .u8 r.form)) (s1 : w.cell? ⟨lb, D * 8 + 2, none⟩ = some (.int .u8 r.top)) (s2 : w.cell? ⟨lb, D * 8 + 3, none⟩ = some (.int .u8 r.bot)) (s3 : w.cell? ⟨lb, D * 8 + 4, none⟩ = some (.int .u8 r.lo.tag)) (s4 : w.cell? ⟨lb, D * 8 + 5, none⟩ = some (.int .u32 r.lo.to)) (s5 : w.cell? ⟨lb, D * 8 + 6, none⟩ = some (.int .u8 r.hi.tag)) (s6 : w.cell? ⟨lb, D * 8 + 7, none⟩ = some (.int .u32 r.hi.to))
    (ha : ∀ W, Keeps w W → Calls Try.prog 66 #[.pointer (some ⟨sb, 0, none⟩), .int .u32 e.to] W fun r w' => r = .returned (.int .i64 (D : Int)) ∧ W = w')
    (hv : ∀ W k, 0 ≤ k → k ≤ 16 → Calls Try.prog 96 #[.int .i64 x, .int .i64 k] W fun r w' => r = .returned (.int .i64 (bitI (bitB x k))) ∧ W = w')
    (hi : ∀ W, Keeps w W → Calls Try.prog 59 #[.pointer (some ⟨sb, 0, none⟩), .int .u8 f, .agg #[.int .u8 (sideE x r).tag, .int .u32 (sideE x r).to], .int .i64 (r.bot + 1), .int .i64 x] W fun r w' => r = .returned (.bool R) ∧ Keeps W w') :
    Calls Try.prog 59 #[.pointer (some ⟨sb, 0, none⟩), .int .u8 f, .agg #[.int .u8 e.tag, .int .u32 e.to], .int .i64 r.top, .int .i64 x] w fun r w' => r = .returned (.bool R) ∧ Keeps w w' := by
  have t0 : 0 ≤ e.tag := ho.1.1
  have t1 : e.tag ≤ 255 := ho.1.2
  have r0 : 0 ≤ r.top := hro.top.1
  have r1 : r.top ≤ 255 := hro.top.2
  have r2 : 0 ≤ r.bot := hro.bot.1
  have r3 : r.bot ≤ 255 := hro.bot.2
  have hlb : lb < w.heap.size := lt_of_cell s1
  have hlb1 : lb < w.heap.size + 1 := by omega
  have hp : 0 < e.to := by have := ho.2.1; omega
  have hsb1 : sb < w.heap.size + 1 := by omega
  have hlt : r.top < n := by omega
  obtain ⟨bt, hbt⟩ : ∃ bt, bt = bitI (bitB x r.top) := ⟨_, rfl⟩
  have hvt := fun W => hv W r.top r0 (by omega)
  rw [← hbt] at hvt
  have HVT := Lib.hid hvt
  have HA := Lib.hid ha
  have HV := Lib.hid hv
  have HI := Lib.hid hi
  have HFF := Lib.hid hff
  obtain ⟨N, hN⟩ : ∃ N, N = (r.bot + 1 - r.top).toNat := ⟨_, rfl⟩
  have HN := Lib.hid hN
  clear ha hv hi hbt hvt hff hN ho hro
  go_enter Try.func59, Try.ntmps59
  go_wp2_with (first | (go_at_call 66; refine (HA.out _ (by (repeat (first | with_reducible exact Keeps.refl _ | with_reducible assumption | with_reducible refine Keeps.alloc ?_ _ | with_reducible refine Keeps.drewN ?_ _ | with_reducible refine Keeps.drew ?_ | refine Keeps.setCell ?_ (by dsimp only; omega) _ | with_reducible refine Keeps.trans ?_ (by assumption))))).mono ?_; rintro e2 w2 ⟨rfl, rfl⟩) | (go_at_call 96; refine (HVT.out _).mono ?_; rintro e3 w3 ⟨rfl, rfl⟩) | fail)
  go_loopg [15, 16] N (fun gk s15 s16 wr => ∃ (sv : Bool) (k : Int), s15 = .bool sv ∧ s16 = .int .i64 k ∧ r.top ≤ k ∧ k ≤ r.bot + 1 ∧ gk = (r.bot + 1 - k).toNat ∧ (sv || !clearN x k gk) = !clearN x r.top N ∧ (wr.cell? ⟨(w.heap.size + 1), 0, none⟩ = some (.int .u8 r.form) ∧ wr.cell? ⟨(w.heap.size + 1), 1, none⟩ = some (.int .u8 r.top) ∧ wr.cell? ⟨(w.heap.size + 1), 2, none⟩ = some (.int .u8 r.bot) ∧ wr.cell? ⟨(w.heap.size + 1), 3, none⟩ = some (.int .u8 r.lo.tag) ∧ wr.cell? ⟨(w.heap.size + 1), 4, none⟩ = some (.int .u32 r.lo.to) ∧ wr.cell? ⟨(w.heap.size + 1), 5, none⟩ = some (.int .u8 r.hi.tag) ∧ wr.cell? ⟨(w.heap.size + 1), 6, none⟩ = some (.int .u32 r.hi.to)) ∧ Keeps w wr)
  case atStart => exact ⟨false, r.top, rfl, rfl, by omega, by omega, HN.out, rfl, ⟨by simp [go_sem], by simp [go_sem], by simp [go_sem], by simp [go_sem], by simp [go_sem], by simp [go_sem], by simp [go_sem]⟩, by (repeat (first | with_reducible exact Keeps.refl _ | with_reducible assumption | with_reducible refine Keeps.alloc ?_ _ | with_reducible refine Keeps.drewN ?_ _ | with_reducible refine Keeps.drew ?_ | refine Keeps.setCell ?_ (by dsimp only; omega) _ | with_reducible refine Keeps.trans ?_ (by assumption)))⟩
  case round =>
    obtain ⟨sv, k, rfl, rfl, k0, k1, hgk, hcl, ⟨b0, b1, b2, b3, b4, b5, b6⟩, hk⟩ := hrel
    have HC := Lib.hid hcl
    have HG := Lib.hid hgk
    have HB7 := Lib.hid (And.intro b0 (And.intro b1 (And.intro b2 (And.intro b3 (And.intro b4 (And.intro b5 b6))))))
    clear hcl hgk
    by_cases hle : k ≤ r.bot
    · obtain ⟨g, rfl⟩ : ∃ g, gk = g + 1 := ⟨gk - 1, by have := HG.out; omega⟩
      have hg2 : g = (r.bot + 1 - (k + 1)).toNat := by have := HG.out; omega
      have HG2 := Lib.hid hg2
      have hcs : clearN x k (g + 1) = (!bitB x k && clearN x (k + 1) g) := rfl
      have HCS := Lib.hid hcs
      clear hg2 hcs
      cases sv
      · have hvk := fun W => HV.out W k (by omega) (by omega)
        rcases bool_cases (bitB x k) with hbit | hbit
        · rw [hbit] at hvk
          have HVK : Hid (∀ W, Calls Try.prog 96 #[.int .i64 x, .int .i64 k] W fun r w' => r = .returned (.int .i64 0) ∧ W = w') := Lib.hid hvk
          have HBIT := Lib.hid hbit
          clear hbit hvk
          go_wp2_with (first | (go_at_call 96; refine (HVK.out _).mono ?_; rintro e3 w3 ⟨rfl, rfl⟩) | fail)
          go_roundg g
          case rel => exact ⟨false, k + 1, rfl, rfl, by omega, by omega, HG2.out, by rw [← HC.out, HCS.out, HBIT.out]; rfl, HB7.out, hk⟩
          case measure => omega
        · rw [hbit] at hvk
          have HVK : Hid (∀ W, Calls Try.prog 96 #[.int .i64 x, .int .i64 k] W fun r w' => r = .returned (.int .i64 1) ∧ W = w') := Lib.hid hvk
          have HBIT := Lib.hid hbit
          clear hbit hvk
          go_wp2_with (first | (go_at_call 96; refine (HVK.out _).mono ?_; rintro e3 w3 ⟨rfl, rfl⟩) | fail)
          go_roundg g
          case rel => exact ⟨true, k + 1, rfl, rfl, by omega, by omega, HG2.out, by rw [← HC.out, HCS.out, HBIT.out]; rfl, HB7.out, hk⟩
          case measure => omega
      · go_wp2_with fail
        go_roundg g
        case rel => exact ⟨true, k + 1, rfl, rfl, by omega, by omega, HG2.out, by rw [← HC.out]; rfl, HB7.out, hk⟩
        case measure => omega
    · have hg0 : gk = 0 := by have := HG.out; omega
      have hsv : sv = !clearN x r.top (r.bot + 1 - r.top).toNat := by rw [← HN.out, ← HC.out, hg0]; cases sv <;> rfl
      have HSV := Lib.hid hsv
      clear hg0 hsv
      by_cases h3 : f = 3
      · have hse : sideE x r = if sv then r.hi else r.lo := by unfold sideE someB; rw [if_pos (HFF.out.trans h3), ← HSV.out]
        have HSE := Lib.hid hse
        subst h3
        clear hse
        cases sv
        · have HIL : Hid (∀ W, Keeps w W → Calls Try.prog 59 #[.pointer (some ⟨sb, 0, none⟩), .int .u8 3, .agg #[.int .u8 r.lo.tag, .int .u32 r.lo.to], .int .i64 (r.bot + 1), .int .i64 x] W fun r w' => r = .returned (.bool R) ∧ Keeps W w') := Lib.hid (fun W hW => by have := HI.out W hW; rw [HSE.out] at this; exact this)
          go_wp2_with (first | (go_at_call 59; refine (HIL.out _ (by (repeat (first | with_reducible exact Keeps.refl _ | with_reducible assumption | with_reducible refine Keeps.alloc ?_ _ | with_reducible refine Keeps.drewN ?_ _ | with_reducible refine Keeps.drew ?_ | refine Keeps.setCell ?_ (by dsimp only; omega) _ | with_reducible refine Keeps.trans ?_ (by assumption))))).mono ?_; rintro e4 w4 ⟨rfl, hk4⟩) | fail)
          go_ret
          exact ⟨rfl, by (repeat (first | with_reducible exact Keeps.refl _ | with_reducible assumption | with_reducible refine Keeps.alloc ?_ _ | with_reducible refine Keeps.drewN ?_ _ | with_reducible refine Keeps.drew ?_ | refine Keeps.setCell ?_ (by dsimp only; omega) _ | with_reducible refine Keeps.trans ?_ (by assumption)))⟩
        · have HIH : Hid (∀ W, Keeps w W → Calls Try.prog 59 #[.pointer (some ⟨sb, 0, none⟩), .int .u8 3, .agg #[.int .u8 r.hi.tag, .int .u32 r.hi.to], .int .i64 (r.bot + 1), .int .i64 x] W fun r w' => r = .returned (.bool R) ∧ Keeps W w') := Lib.hid (fun W hW => by have := HI.out W hW; rw [HSE.out] at this; exact this)
          go_wp2_with (first | (go_at_call 59; refine (HIH.out _ (by (repeat (first | with_reducible exact Keeps.refl _ | with_reducible assumption | with_reducible refine Keeps.alloc ?_ _ | with_reducible refine Keeps.drewN ?_ _ | with_reducible refine Keeps.drew ?_ | refine Keeps.setCell ?_ (by dsimp only; omega) _ | with_reducible refine Keeps.trans ?_ (by assumption))))).mono ?_; rintro e4 w4 ⟨rfl, hk4⟩) | fail)
          go_ret
          exact ⟨rfl, by (repeat (first | with_reducible exact Keeps.refl _ | with_reducible assumption | with_reducible refine Keeps.alloc ?_ _ | with_reducible refine Keeps.drewN ?_ _ | with_reducible refine Keeps.drew ?_ | refine Keeps.setCell ?_ (by dsimp only; omega) _ | with_reducible refine Keeps.trans ?_ (by assumption)))⟩
      · have g3 : (f != 3) = true := by simp [h3]
        have hvk := fun W => HV.out W r.bot r2 (by omega)
        obtain ⟨bb, hbb⟩ : ∃ bb, bb = bitB x r.bot := ⟨_, rfl⟩
        have hse : sideE x r = if bb then r.hi else r.lo := by unfold sideE someB; rw [if_neg (fun hh => h3 (HFF.out.symm.trans hh)), ← hbb]
        have HSE := Lib.hid hse
        rw [← hbb] at hvk
        clear hse hbb
        cases bb
        · have HVK : Hid (∀ W, Calls Try.prog 96 #[.int .i64 x, .int .i64 r.bot] W fun r w' => r = .returned (.int .i64 0) ∧ W = w') := Lib.hid hvk
          have HIL : Hid (∀ W, Keeps w W → Calls Try.prog 59 #[.pointer (some ⟨sb, 0, none⟩), .int .u8 f, .agg #[.int .u8 r.lo.tag, .int .u32 r.lo.to], .int .i64 (r.bot + 1), .int .i64 x] W fun r w' => r = .returned (.bool R) ∧ Keeps W w') := Lib.hid (fun W hW => by have := HI.out W hW; rw [HSE.out] at this; exact this)
          clear hvk
          go_wp2_with (first | (go_at_call 96; refine (HVK.out _).mono ?_; rintro e3 w3 ⟨rfl, rfl⟩) | (go_at_call 59; refine (HIL.out _ (by (repeat (first | with_reducible exact Keeps.refl _ | with_reducible assumption | with_reducible refine Keeps.alloc ?_ _ | with_reducible refine Keeps.drewN ?_ _ | with_reducible refine Keeps.drew ?_ | refine Keeps.setCell ?_ (by dsimp only; omega) _ | with_reducible refine Keeps.trans ?_ (by assumption))))).mono ?_; rintro e4 w4 ⟨rfl, hk4⟩) | fail)
          go_ret
          exact ⟨rfl, by (repeat (first | with_reducible exact Keeps.refl _ | with_reducible assumption | with_reducible refine Keeps.alloc ?_ _ | with_reducible refine Keeps.drewN ?_ _ | with_reducible refine Keeps.drew ?_ | refine Keeps.setCell ?_ (by dsimp only; omega) _ | with_reducible refine Keeps.trans ?_ (by assumption)))⟩
        · have HVK : Hid (∀ W, Calls Try.prog 96 #[.int .i64 x, .int .i64 r.bot] W fun r w' => r = .returned (.int .i64 1) ∧ W = w') := Lib.hid hvk
          have HIH : Hid (∀ W, Keeps w W → Calls Try.prog 59 #[.pointer (some ⟨sb, 0, none⟩), .int .u8 f, .agg #[.int .u8 r.hi.tag, .int .u32 r.hi.to], .int .i64 (r.bot + 1), .int .i64 x] W fun r w' => r = .returned (.bool R) ∧ Keeps W w') := Lib.hid (fun W hW => by have := HI.out W hW; rw [HSE.out] at this; exact this)
          clear hvk
          go_wp2_with (first | (go_at_call 96; refine (HVK.out _).mono ?_; rintro e3 w3 ⟨rfl, rfl⟩) | (go_at_call 59; refine (HIH.out _ (by (repeat (first | with_reducible exact Keeps.refl _ | with_reducible assumption | with_reducible refine Keeps.alloc ?_ _ | with_reducible refine Keeps.drewN ?_ _ | with_reducible refine Keeps.drew ?_ | refine Keeps.setCell ?_ (by dsimp only; omega) _ | with_reducible refine Keeps.trans ?_ (by assumption))))).mono ?_; rintro e4 w4 ⟨rfl, hk4⟩) | fail)
          go_ret
          exact ⟨rfl, by (repeat (first | with_reducible exact Keeps.refl _ | with_reducible assumption | with_reducible refine Keeps.alloc ?_ _ | with_reducible refine Keeps.drewN ?_ _ | with_reducible refine Keeps.drew ?_ | refine Keeps.setCell ?_ (by dsimp only; omega) _ | with_reducible refine Keeps.trans ?_ (by assumption)))⟩

end Go.Proofs.Ytnkehgohamjpaaa
