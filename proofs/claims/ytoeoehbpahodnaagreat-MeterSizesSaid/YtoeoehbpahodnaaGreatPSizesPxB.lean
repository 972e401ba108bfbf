/-
  Plainly: every table has its diagram; chains and tags never make it greater.
-/
import Derived.Test.YtoeoehbpahodnaaGreatPSwapUxB
namespace Go.Proofs.YtoeoehbpahodnaaGreat
set_option linter.unusedSimpArgs false
set_option linter.unusedVariables false
set_option maxHeartbeats 600000
open Go.RowKit

theorem mkK_rec0 {M : St} (hfit : Fit0 M) {f l : Int} {lo hi : Edge} (hf : 1 ≤ f ∧ f ≤ 5) (hlo : 0 ≤ lo.to) (hhi : 0 ≤ hi.to) : (∀ r, mkK f M l lo hi = .inr r → 0 ≤ r.lo.to ∧ 0 ≤ r.hi.to) ∧ ∀ e c, mkK f M l lo hi = .inl (e, c) → 0 ≤ e.to := by
  have hff : f = 1 ∨ f = 2 ∨ f = 3 ∨ f = 4 ∨ f = 5 := by omega
  rcases hff with rfl | rfl | rfl | rfl | rfl
  · rw [mkK1]
    unfold makeAct bRest
    refine ⟨fun r hr => ?_, fun e c hr => ?_⟩
    · split at hr
      · cases hr
      · split at hr
        · cases hr
        · split at hr
          · cases hr
          · cases hr; exact ⟨hlo, hhi⟩
    · split at hr
      · cases hr; exact Int.le_refl _
      · split at hr
        · cases hr; exact Int.le_refl _
        · split at hr
          · cases hr; exact hlo
          · cases hr
  · rw [mkK2]
    unfold makeAct zRest
    refine ⟨fun r hr => ?_, fun e c hr => ?_⟩
    · split at hr
      · cases hr
      · split at hr
        · cases hr
        · split at hr
          · cases hr
          · cases hr; exact ⟨hlo, hhi⟩
    · split at hr
      · cases hr; exact Int.le_refl _
      · split at hr
        · cases hr; exact Int.le_refl _
        · split at hr
          · cases hr; exact hlo
          · cases hr
  · rw [mkK3]
    unfold makeAct cRest
    refine ⟨fun r hr => ?_, fun e c hr => ?_⟩
    · split at hr
      · cases hr
      · split at hr
        · cases hr
        · split at hr
          · cases hr
          · cases hk : look M.cs lo.to with
            | none => rw [hk] at hr; cases hr; exact ⟨hlo, hhi⟩
            | some q =>
              rw [hk] at hr
              simp only [] at hr
              split at hr
              · split at hr
                · cases hr; exact ⟨(hfit _ _ hk).1, hhi⟩
                · cases hr; exact ⟨hlo, hhi⟩
              · cases hr; exact ⟨hlo, hhi⟩
    · split at hr
      · cases hr; exact Int.le_refl _
      · split at hr
        · cases hr; exact Int.le_refl _
        · split at hr
          · cases hr; exact hlo
          · cases hk : look M.cs lo.to with
            | none => rw [hk] at hr; cases hr
            | some q =>
              rw [hk] at hr
              simp only [] at hr
              split at hr
              · split at hr <;> cases hr
              · cases hr
  · rw [mkK4]
    unfold makeAct qRest
    refine ⟨fun r hr => ?_, fun e c hr => ?_⟩
    · split at hr
      · cases hr
      · split at hr
        · cases hr
        · split at hr
          · cases hr
          · cases hk : look M.cs lo.to with
            | none => rw [hk] at hr; cases hr; exact ⟨hlo, hhi⟩
            | some q =>
              rw [hk] at hr
              simp only [] at hr
              split at hr
              · split at hr
                · have hq := hfit _ _ hk; cases hr; exact ⟨hq.1, hq.2⟩
                · cases hr; exact ⟨hlo, hhi⟩
              · cases hr; exact ⟨hlo, hhi⟩
    · split at hr
      · cases hr; exact Int.le_refl _
      · split at hr
        · cases hr; exact Int.le_refl _
        · split at hr
          · cases hr; exact hlo
          · cases hk : look M.cs lo.to with
            | none => rw [hk] at hr; cases hr
            | some q =>
              rw [hk] at hr
              simp only [] at hr
              split at hr
              · split at hr <;> cases hr
              · cases hr
  · rw [mkK5]
    unfold tAct
    refine ⟨fun r hr => ?_, fun e c hr => ?_⟩
    · split at hr
      · cases hr
      · split at hr
        · cases hr
        · split at hr
          · cases hr
          · split at hr
            · cases hr
            · cases hr; exact ⟨hlo, hhi⟩
    · split at hr
      · cases hr; exact Int.le_refl _
      · split at hr
        · cases hr; exact Int.le_refl _
        · split at hr
          · cases hr; exact hlo
          · split at hr
            · cases hr; exact hlo
            · cases hr

theorem make_fit0 {M : St} (hw : M.wf) (hfit : Fit0 M) {f l : Int} {lo hi : Edge} (hf : 1 ≤ f ∧ f ≤ 5) (hlo : 0 ≤ lo.to) (hhi : 0 ≤ hi.to) : Fit0 (actSt M (mkK f M l lo hi)) := by
  cases hk : mkK f M l lo hi with
  | inl x => exact hfit
  | inr r => exact find_fit0 hw hfit ((mkK_rec0 hfit hf hlo hhi).1 r hk)

theorem exists_made {f : Int} (hf : 1 ≤ f ∧ f ≤ 5) : ∀ (k : Nat) (ts : List Bool) (l : Int) (M : St), M.wf → Fit0 M → ts.length = 2 ^ k → 0 ≤ l → l + (k : Int) = M.n → M.len + ((2 ^ k - 1 : Nat) : Int) ≤ M.room →
    ∃ M' e, GrownBy M M' ((2 ^ k - 1 : Nat) : Int) ∧ Fit0 M' ∧ IsT f M' k ts l e ∧ rightK M' f e l ∧ 0 ≤ e.to := by
  intro k
  induction k with
  | zero =>
    intro ts l M hw hfit hlen h0 hn hroom
    obtain ⟨b, rfl⟩ : ∃ b, ts = [b] := by
      match ts, hlen with
      | [b], _ => exact ⟨b, rfl⟩
    have hl : l = M.n := by simpa using hn
    refine ⟨M, endE f b l, GrownBy.refl hw (by decide), hfit, ⟨b, rfl, rfl⟩, by rw [hl]; exact endE_rightK hw, ?_⟩
    unfold endE
    split
    · split
      · show (0 : Int) ≤ 1; decide
      · show (0 : Int) ≤ 1; decide
    · exact Int.le_refl _
  | succ k ih =>
    intro ts l M hw hfit hlen h0 hn hroom
    have e2 : 2 ^ (k + 1) = 2 ^ k + 2 ^ k := by rw [Nat.pow_succ]; omega
    have hp : 0 < 2 ^ k := Nat.pow_pos (by decide)
    push_cast at hn
    obtain ⟨M1, lo, g1, f1, t1, r1, o1⟩ := ih (ts.take (2 ^ k)) (l + 1) M hw hfit (by rw [List.length_take]; omega) (by omega) (by omega) (by omega)
    have n1 := g1.ext.n
    have hl1 := g1.len
    have hr1 := g1.room
    obtain ⟨M2, hi, g2, f2, t2, r2, o2⟩ := ih (ts.drop (2 ^ k)) (l + 1) M1 g1.wf f1 (by rw [List.length_drop]; omega) (by omega) (by omega) (by omega)
    have n2 := g2.ext.n
    have hl2 := g2.len
    have hr2 := g2.room
    have t1' := IsT.ext g2.ext hf _ _ _ _ t1
    have r1' := rightK_ext g2.ext g1.wf r1
    have hlk : l + 1 + (k : Int) = M2.n := by omega
    have hmk := makesK g2.wf hf h0 (by omega) (by omega) (t1'.leads g2.wf hf hlk) (t2.leads g2.wf hf hlk) r1' r2
    have hfit3 := make_fit0 (l := l) g2.wf f2 hf o1 o2
    refine ⟨_, _, (((g1.trans g2 (Int.le_refl _)).trans hmk.grown (by omega))), hfit3, ⟨by rw [hlen], lo, hi, IsT.ext hmk.grown.ext hf _ _ _ _ t1', IsT.ext hmk.grown.ext hf _ _ _ _ t2, hmk.pair⟩, hmk.right, ?_⟩
    rcases hmk.pair.up with u | ⟨r, u1, u2, u3⟩
    · exact (mkK_rec0 hfit3 hf o1 o2).2 _ _ u
    · have := (look_some u2).1
      omega

theorem sizes_le {k : Nat} (hk : k ≤ 6) {ts : List Bool} (hl : ts.length = 2 ^ k) : termN 3 k ts ≤ termN 1 k ts ∧ termN 4 k ts ≤ termN 2 k ts ∧ termN 5 k ts ≤ termN 1 k ts ∧ termN 5 k ts ≤ termN 2 k ts := by
  have h64 : 2 ^ k ≤ 2 ^ 6 := Nat.pow_le_pow_right (by decide) hk
  have e64 : (2 : Nat) ^ 6 = 64 := rfl
  have w0 : (St.new (k : Int) 1048576).wf := St.new_wf (by omega) (by omega) (by decide) (by decide)
  have f0 : Fit0 (St.new (k : Int) 1048576) := fun id r hr => by
    have hn : look (St.new (k : Int) 1048576).cs id = none := look_nil id
    rw [hn] at hr
    cases hr
  have l0 : (St.new (k : Int) 1048576).len = 0 := rfl
  have r0 : (St.new (k : Int) 1048576).room = 1048576 := rfl
  have n0 : (St.new (k : Int) 1048576).n = (k : Int) := rfl
  obtain ⟨M1, x1, g1, f1, t1, _, o1⟩ := exists_made (f := 1) (by decide) k ts 0 _ w0 f0 hl (Int.le_refl _) (by rw [n0]; omega) (by rw [l0, r0]; omega)
  have l1 := g1.len; have r1 := g1.room; have n1 := g1.ext.n
  obtain ⟨M2, x2, g2, f2, t2, _, o2⟩ := exists_made (f := 2) (by decide) k ts 0 M1 g1.wf f1 hl (Int.le_refl _) (by omega) (by omega)
  have l2 := g2.len; have r2 := g2.room; have n2 := g2.ext.n
  obtain ⟨M3, x3, g3, f3, t3, _, o3⟩ := exists_made (f := 3) (by decide) k ts 0 M2 g2.wf f2 hl (Int.le_refl _) (by omega) (by omega)
  have l3 := g3.len; have r3 := g3.room; have n3 := g3.ext.n
  obtain ⟨M4, x4, g4, f4, t4, _, o4⟩ := exists_made (f := 4) (by decide) k ts 0 M3 g3.wf f3 hl (Int.le_refl _) (by omega) (by omega)
  have l4 := g4.len; have r4 := g4.room; have n4 := g4.ext.n
  obtain ⟨M5, x5, g5, f5, t5, _, o5⟩ := exists_made (f := 5) (by decide) k ts 0 M4 g4.wf f4 hl (Int.le_refl _) (by omega) (by omega)
  have n5 := g5.ext.n
  have t4' := IsT.ext g5.ext (by decide) _ _ _ _ t4
  have t3' := IsT.ext (g4.ext.trans g5.ext) (by decide) _ _ _ _ t3
  have t2' := IsT.ext ((g3.ext.trans g4.ext).trans g5.ext) (by decide) _ _ _ _ t2
  have t1' := IsT.ext (((g2.ext.trans g3.ext).trans g4.ext).trans g5.ext) (by decide) _ _ _ _ t1
  have hn : (0 : Int) + (k : Int) = M5.n := by omega
  have hF : ∀ f, Fine f M5 := fun f => ⟨g5.wf, f5, by omega⟩
  have s31 := small_one g5.wf (.inl rfl) t3' t1' hn
  have s51 := small_one g5.wf (.inr rfl) t5 t1' hn
  have s42 := small_two g5.wf t4' t2' hn
  have s52 := small_tz g5.wf t5 t2' hn
  have c1 : termN 1 k ts = _ := size_made (hF 1) (by decide) t1' o1 hn
  have c2 : termN 2 k ts = _ := size_made (hF 2) (by decide) t2' o2 hn
  have c3 : termN 3 k ts = _ := size_made (hF 3) (by decide) t3' o3 hn
  have c4 : termN 4 k ts = _ := size_made (hF 4) (by decide) t4' o4 hn
  have c5 : termN 5 k ts = _ := size_made (hF 5) (by decide) t5 o5 hn
  omega

end Go.Proofs.YtoeoehbpahodnaaGreat
