/-
  The walk of law17.Made, any form (printed by wip/mk_madek.py).
-/
import Derived.Test.YtiacdpoldgfpbaaGreatPKMake
import Derived.Test.YtiacdpoldgfpbaaGreatPKPlain
namespace Go.Proofs.YtiacdpoldgfpbaaGreat
set_option linter.unusedSimpArgs false
set_option linter.unusedVariables false
set_option maxHeartbeats 600000
open Go.RowKit

def MadeAt (f : Int) (M : St) (bs : List Bool) (k off : Nat) (l : Int) (e : Edge) : Prop := IsT f M k ((bs.drop off).take (2 ^ k)) l e ∧ rightK M f e l

theorem MadeAt.ext {f : Int} {M M' : St} {bs : List Bool} (hE : Ext M M') (hw : M.wf) (hf : 1 ≤ f ∧ f ≤ 5) {k off : Nat} {l : Int} {e : Edge} (h : MadeAt f M bs k off l e) : MadeAt f M' bs k off l e :=
  ⟨IsT.ext hE hf _ _ _ _ h.1, rightK_ext hE hw h.2⟩

theorem MadeAt.pair {f : Int} {M : St} {bs : List Bool} {k off : Nat} {l : Int} {lo hi e : Edge} (h1 : MadeAt f M bs k off (l + 1) lo) (h2 : MadeAt f M bs k (off + 2 ^ k) (l + 1) hi) (h3 : Pair f M l lo hi e) (hr : rightK M f e l) (hlen : off + 2 ^ (k + 1) ≤ bs.length) : MadeAt f M bs (k + 1) off l e := by
  have e2 : 2 ^ (k + 1) = 2 ^ k + 2 ^ k := by rw [Nat.pow_succ]; omega
  have hp : 0 < 2 ^ k := Nat.pow_pos (by decide)
  refine ⟨⟨by simp only [List.length_take, List.length_drop]; omega, lo, hi, ?_, ?_, h3⟩, hr⟩
  · rw [List.take_take, show min (2 ^ k) (2 ^ (k + 1)) = 2 ^ k by omega]
    exact h1.1
  · rw [List.drop_take, List.drop_drop, show 2 ^ (k + 1) - 2 ^ k = 2 ^ k by omega]
    exact h2.1

theorem kAct_mkK {M : St} {f l : Int} {lo hi : Edge} (hf : 1 ≤ f ∧ f ≤ 5) : kAct M f l lo hi = mkK f M l lo hi := by
  have hff : f = 1 ∨ f = 2 ∨ f = 3 ∨ f = 4 ∨ f = 5 := by omega
  rcases hff with rfl | rfl | rfl | rfl | rfl <;> rfl

theorem mkK_ok {f : Int} {M : St} {l : Int} {lo hi : Edge} (h : M.wf) (hf : M.cs.length ≤ 1048576) (hlo : lo.ok) (hhi : hi.ok) (h0 : 0 ≤ l) (h1 : l ≤ 255) (hff : 1 ≤ f ∧ f ≤ 5) : (mkE f M (mkK f M l lo hi)).ok := by
  have hc : f = 1 ∨ f = 2 ∨ f = 3 ∨ f = 4 ∨ f = 5 := by omega
  rcases hc with rfl | rfl | hc | hc | hc
  · rw [mkK1]
    show (actE0 M _).ok
    unfold makeAct bRest
    repeat' split
    all_goals first | exact edge0_ok | exact hlo | exact foundE_fit h hf 0 (by omega) _
  · rw [mkK2]
    show (actE0 M _).ok
    unfold makeAct zRest
    repeat' split
    all_goals first | exact edge0_ok | exact hlo | exact foundE_fit h hf 0 (by omega) _
  · have e : mkK f M l lo hi = mkA f M l lo hi := by subst hc; rfl
    rw [e]; exact mkE_ok h hf hlo hhi h0 h1 (.inl hc)
  · have e : mkK f M l lo hi = mkA f M l lo hi := by subst hc; rfl
    rw [e]; exact mkE_ok h hf hlo hhi h0 h1 (.inr (.inl hc))
  · have e : mkK f M l lo hi = mkA f M l lo hi := by subst hc; rfl
    rw [e]; exact mkE_ok h hf hlo hhi h0 h1 (.inr (.inr hc))

theorem end12_calls (b : Bool) (l : Int) (w : World) : Calls Tryz.prog 102 #[.bool b, .int .i64 l] w fun e w' => e = .returned (.agg #[.int .u8 (endE 3 b l).tag, .int .u32 (endE 3 b l).to]) ∧ Keeps w w' := by
  cases b
  · go_enter Tryz.func102, Tryz.ntmps102
    go_wp2
    all_goals refine bodyPost_ret (v := .agg #[.int .u8 0, .int .u32 0]) (by simp [results, Tryz.results102, go_sem]) rfl ⟨rfl, by (exact kp)⟩
  · go_enter Tryz.func102, Tryz.ntmps102
    go_wp2
    all_goals refine bodyPost_ret (v := .agg #[.int .u8 0, .int .u32 1]) (by simp [results, Tryz.results102, go_sem]) rfl ⟨rfl, by (exact kp)⟩

set_option maxRecDepth 100000 in
theorem end17_calls (f : Int) (b : Bool) (l : Int) (hf : 1 ≤ f ∧ f ≤ 5) (h0 : 0 ≤ l) (h1 : l ≤ 16) (w : World) : Calls Tryz.prog 61 #[.int .u8 f, .bool b, .int .i64 l] w fun e w' => e = .returned (.agg #[.int .u8 (endE f b l).tag, .int .u32 (endE f b l).to]) ∧ Keeps w w' := by
  by_cases h5 : f = 5
  · subst h5
    have hE := fun W => end16_calls b l h0 h1 W
    obtain ⟨e, he⟩ : ∃ e, e = endE 5 b l := ⟨_, rfl⟩
    rw [← he] at hE ⊢
    have HE := Lib.hid hE
    clear hE he
    go_enter Tryz.func61, Tryz.ntmps61
    go_wp2_with fail
    refine (HE.out _).mono ?_
    rintro r w1 ⟨rfl, hk⟩
    have z0 : w1.cell? ⟨w.heap.size, 0, none⟩ = some (.int .u8 0) := hk.cell (by simp)
    have z1 : w1.cell? ⟨w.heap.size, 1, none⟩ = some (.int .u32 0) := hk.cell (by simp)
    have zf := fun o : Nat => hk.frz (a := ⟨w.heap.size, o, none⟩) (by simp) (by simp [go_sem])
    go_wp2_with fail
    all_goals refine bodyPost_ret (v := .agg #[.int .u8 e.tag, .int .u32 e.to]) (by simp [results, Tryz.results61, go_sem, z0, z1]) rfl ⟨rfl, by (exact kp)⟩
  · have ee : endE f b l = endE 3 b l := by
      unfold endE
      rw [if_neg h5, if_neg (show ¬ (3 : Int) = 5 by decide)]
    rw [ee]
    have hE := fun W => end12_calls b l W
    obtain ⟨e, he⟩ : ∃ e, e = endE 3 b l := ⟨_, rfl⟩
    rw [← he] at hE ⊢
    have HE := Lib.hid hE
    clear hE he ee
    go_enter Tryz.func61, Tryz.ntmps61
    go_wp2_with fail
    refine (HE.out _).mono ?_
    rintro r w1 ⟨rfl, hk⟩
    have z0 : w1.cell? ⟨w.heap.size, 0, none⟩ = some (.int .u8 0) := hk.cell (by simp)
    have z1 : w1.cell? ⟨w.heap.size, 1, none⟩ = some (.int .u32 0) := hk.cell (by simp)
    have zf := fun o : Nat => hk.frz (a := ⟨w.heap.size, o, none⟩) (by simp) (by simp [go_sem])
    go_wp2_with fail
    all_goals refine bodyPost_ret (v := .agg #[.int .u8 e.tag, .int .u32 e.to]) (by simp [results, Tryz.results61, go_sem, z0, z1]) rfl ⟨rfl, by (exact kp)⟩

end Go.Proofs.YtiacdpoldgfpbaaGreat
