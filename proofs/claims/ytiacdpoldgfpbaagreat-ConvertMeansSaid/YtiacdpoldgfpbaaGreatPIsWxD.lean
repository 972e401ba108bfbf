/-
  law19.Is and law19.Stays.
-/
import Derived.Test.YtiacdpoldgfpbaaGreatPHPlainAxD
import Derived.Test.YtiacdpoldgfpbaaGreatPIsW
namespace Go.Proofs.YtiacdpoldgfpbaaGreat
set_option linter.unusedSimpArgs false
set_option linter.unusedVariables false
set_option maxHeartbeats 600000
open Go.RowKit

theorem is19_calls {F : Nat → Prop} {w : World} {sb B k : Nat} {M : St} {ts : List Bool} {x : Edge} (h : StoreRep F w sb M) (f : Int) (hf : 1 ≤ f ∧ f ≤ 5) (hx : x.ok) (hk : k ≤ 6) (hn : (0 : Int) + (k : Nat) = M.n) (hm : IsT f M k ts 0 x) (hr : rightK M f x 0) (hB : TabAt w B 0 ts) :
    Calls Tryz.prog 23 #[.pointer (some ⟨sb, 0, none⟩), .int .u8 f, .agg #[.int .u8 x.tag, .int .u32 x.to], .slice (some ⟨B, 0, none⟩) (2 ^ k) (2 ^ k)] w fun r w' => r = .returned (.bool true) ∧ Keeps w w' := by
  have hld := hm.leads h.wf hf hn
  have h6 : 2 ^ k ≤ 2 ^ 6 := Nat.pow_le_pow_right (by decide) hk
  have e6 : (2 : Nat) ^ 6 = 64 := rfl
  have hlen := hm.length
  have hrg := fun (W : World) (hW : Keeps w W) => canon_right (h.keeps hW) f x 0 hx
  rw [kRight_of hf hld hr] at hrg
  have hvs := fun (W : World) (hW : Keeps w W) => store_vars (h.keeps hW)
  have tw := twoK h.wf hf hm hn (Int.le_refl _) k (Nat.le_refl _)
  have hun := fun (W : World) (hW : Keeps w W) => unfK_calls (h.keeps hW) (by omega) f hf (k + 1) (by omega) x hx (lead_tag hld (by omega))
  rw [show ((k + 1 : Nat) : Int) - 1 = M.n by omega] at hun
  have htm := fun (W : World) (hW : Keeps w W) => termK_calls f hf k (by omega) 0 (2 ^ k) ts 0 W (hB.keeps hW) hlen (Nat.le_refl _) (by omega) (by omega) (by omega)
  rw [← tw] at htm
  obtain ⟨s, hs⟩ : ∃ s, s = unfS f M (k + 1) x := ⟨_, rfl⟩
  rw [← hs] at hun htm
  obtain ⟨n, hnn⟩ : ∃ n, n = M.n := ⟨_, rfl⟩
  rw [← hnn] at hun hvs
  obtain ⟨p, hp⟩ : ∃ p, p = 2 ^ k := ⟨_, rfl⟩
  rw [← hp] at htm ⊢
  have k0 : (w.alloc (.cells #[.int .u8 x.tag, .int .u32 x.to] 31)).cell? ⟨w.heap.size, 0, none⟩ = some (.int .u8 x.tag) := by simp [go_sem]
  have k1 : (w.alloc (.cells #[.int .u8 x.tag, .int .u32 x.to] 31)).cell? ⟨w.heap.size, 1, none⟩ = some (.int .u32 x.to) := by simp [go_sem]
  have kk : Keeps w (w.alloc (.cells #[.int .u8 x.tag, .int .u32 x.to] 31)) := (Keeps.refl _).alloc _
  obtain ⟨W1, hW1⟩ : ∃ W1, W1 = w.alloc (.cells #[.int .u8 x.tag, .int .u32 x.to] 31) := ⟨_, rfl⟩
  rw [← hW1] at k0 k1 kk
  have HRg := Lib.hid (fun (W : World) (hW : Keeps W1 W) => hrg W (kk.trans hW))
  have HVs := Lib.hid (fun (W : World) (hW : Keeps W1 W) => hvs W (kk.trans hW))
  have HUn := Lib.hid (fun (W : World) (hW : Keeps W1 W) => hun W (kk.trans hW))
  have HTm := Lib.hid (fun (W : World) (hW : Keeps W1 W) => htm W (kk.trans hW))
  have HW1 := Lib.hid hW1
  clear h hm hr hB hld hrg hvs hun htm tw hs hnn hp hlen h6 e6 hn
  go_enter Tryz.func23, Tryz.ntmps23
  go_wp2_with fail
  rw [← HW1.out]
  have k0k := KWorld.cell k0
  have k1k := KWorld.cell k1
  refine wp_region_keeps (W1) (by kernel_rfl) (by kernel_rfl) (by (exact kp)) ?_; (repeat (go_big_quiet_step ((first | (go_at_call 41; with_reducible refine Calls.sameK (HVs.out _ (KWorld.keep _))) | (go_at_call 15; with_reducible refine Calls.keepsK (HRg.out _ (KWorld.keep _))) | (go_at_call 16; with_reducible refine Calls.keepsK (HUn.out _ (KWorld.keep _))) | (go_at_call 17; with_reducible refine Calls.keepsK (HTm.out _ (KWorld.keep _))))))); refine wpQuiet_nil ?_; rintro wq ⟨⟨_, hkq⟩, rfl⟩; try dsimp only
  go_wp2_with fail
  go_ret
  exact ⟨rfl, kk.trans hkq⟩

end Go.Proofs.YtiacdpoldgfpbaaGreat
