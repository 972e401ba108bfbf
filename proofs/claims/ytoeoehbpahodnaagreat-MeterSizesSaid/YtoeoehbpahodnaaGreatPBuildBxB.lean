/-
  build.Of of what is no set of the order's variables.
-/
import Derived.Test.YtoeoehbpahodnaaGreatPBuildO
import Derived.Test.YtoeoehbpahodnaaGreatPSwapUxB
namespace Go.Proofs.YtoeoehbpahodnaaGreat
set_option linter.unusedSimpArgs false
set_option linter.unusedVariables false
set_option maxHeartbeats 600000
open Go.RowKit

set_option maxRecDepth 100000 in
theorem buildOf_bad {F Fo : Nat → Prop} {w : World} {sb ob : Nat} {M : St} {ps ws : List Int} (h : StoreRep F w sb M) (ho : OrdRep Fo w ob ps) (hn : M.n = (ps.length : Int)) (f : Int) (hf : isFormB f = true) (nv : Int)
    (aw : Option Addr) (len cap : Nat) (hl : ws.length = len) (hl2 : len ≤ 1048576) (hW : WordsAt w aw ws) (hbad : ¬ (nv = (ps.length : Int) ∧ setOkB nv ws = true)) :
    Calls Tryz.prog 42 #[.pointer (some ⟨sb, 0, none⟩), .pointer (some ⟨ob, 0, none⟩), .int .u8 f, .agg #[.int .i64 nv, .slice aw len cap]] w fun e w' => e = .returned (.tuple #[.agg #[.int .u8 0, .int .u32 0], .int .u8 1]) ∧ Keeps w w' := by
  have hmy := fun (W : World) (hk : Keeps w W) => buildMay_calls (h.keeps hk) (ho.keeps hk) hn f hf
  have hvs := fun (W : World) (hk : Keeps w W) => store_vars (h.keeps hk)
  have hrt := fun (W : World) (hk : Keeps w W) => setRight_calls nv aw len cap ws W hl hl2 (hW.keeps hk)
  rw [hn] at hvs
  have hp16 := ho.le
  obtain ⟨n, hnn⟩ : ∃ n, n = ps.length := ⟨_, rfl⟩
  rw [← hnn] at hvs hp16 hbad
  have HMY := Lib.hid hmy
  have HVS := Lib.hid hvs
  cases hb : setOkB nv ws with
  | false =>
    rw [hb] at hrt
    have HRT := Lib.hid hrt
    clear h ho hn hl hW hbad hmy hvs hrt hnn hb
    go_enter Tryz.func42, Tryz.ntmps42
    go_wp2_with fail
    refine (HMY.out _ (by (exact kp))).mono ?_
    rintro r w1 ⟨rfl, hk1⟩
    have k0 := hk1.cell (a := ⟨w.heap.size, 0, none⟩) (v := .int .i64 nv) (by simp [go_sem])
    have k1 := hk1.cell (a := ⟨w.heap.size, 1, none⟩) (v := .slice aw len cap) (by simp [go_sem])
    have z0 := hk1.cell (a := ⟨w.heap.size + 1, 0, none⟩) (v := .int .u8 0) (by simp [go_sem])
    have z1 := hk1.cell (a := ⟨w.heap.size + 1, 1, none⟩) (v := .int .u32 0) (by simp [go_sem])
    have zf := fun o : Nat => hk1.frz (a := ⟨w.heap.size + 1, o, none⟩) (by simp) (by simp [go_sem])
    have s1 := hk1.size
    simp only [World.size_alloc] at s1
    have hkw : Keeps w w1 := (((Keeps.refl w).alloc _).alloc _).trans hk1
    go_wp2_with fail
    have HRt := Lib.hid (fun (W : World) (hW : Keeps w1 W) => HRT.out W (hkw.trans hW))
    have k0k := KWorld.cell k0
    have k1k := KWorld.cell k1
    refine wp_region_keeps (w1) (by kernel_rfl) (by kernel_rfl) (by (exact kp)) ?_; (repeat (go_big_quiet_step ((first | (go_at_call 117; with_reducible refine Calls.keepsK (HRt.out _ (KWorld.keep _))))))); refine wpQuiet_nil ?_; rintro wq ⟨⟨_, hkq⟩, rfl⟩; try dsimp only
    replace z0 := hkq.cell z0
    replace z1 := hkq.cell z1
    replace zf := fun o : Nat => hkq.frz (a := ⟨w.heap.size + 1, o, none⟩) (by dsimp only; omega) (zf o)
    have s2 := hkq.size
    have hwl : w.heap.size + 1 < wq.heap.size := by omega
    have hkw2 := hkw.trans hkq
    clear k0k k1k
    go_wp2_with fail
    all_goals refine bodyPost_ret (v := .tuple #[.agg #[.int .u8 0, .int .u32 0], .int .u8 1]) (by simp [results, Tryz.results42, go_sem, hwl, z0, z1]) rfl ⟨rfl, by (exact kp)⟩
  | true =>
    rw [hb] at hrt
    have hne : ¬ nv = (n : Int) := fun e => hbad ⟨e, hb⟩
    have hne2 : (nv != (n : Int)) = true := by simp [hne]
    have HRT := Lib.hid hrt
    clear h ho hn hl hW hbad hmy hvs hrt hnn hb
    go_enter Tryz.func42, Tryz.ntmps42
    go_wp2_with fail
    refine (HMY.out _ (by (exact kp))).mono ?_
    rintro r w1 ⟨rfl, hk1⟩
    have k0 := hk1.cell (a := ⟨w.heap.size, 0, none⟩) (v := .int .i64 nv) (by simp [go_sem])
    have k1 := hk1.cell (a := ⟨w.heap.size, 1, none⟩) (v := .slice aw len cap) (by simp [go_sem])
    have z0 := hk1.cell (a := ⟨w.heap.size + 1, 0, none⟩) (v := .int .u8 0) (by simp [go_sem])
    have z1 := hk1.cell (a := ⟨w.heap.size + 1, 1, none⟩) (v := .int .u32 0) (by simp [go_sem])
    have zf := fun o : Nat => hk1.frz (a := ⟨w.heap.size + 1, o, none⟩) (by simp) (by simp [go_sem])
    have s1 := hk1.size
    simp only [World.size_alloc] at s1
    have hkw : Keeps w w1 := (((Keeps.refl w).alloc _).alloc _).trans hk1
    go_wp2_with fail
    have HVs := Lib.hid (fun (W : World) (hW : Keeps w1 W) => HVS.out W (hkw.trans hW))
    have HRt := Lib.hid (fun (W : World) (hW : Keeps w1 W) => HRT.out W (hkw.trans hW))
    have k0k := KWorld.cell k0
    have k1k := KWorld.cell k1
    refine wp_region_keeps (w1) (by kernel_rfl) (by kernel_rfl) (by (exact kp)) ?_; (repeat (go_big_quiet_step ((first | (go_at_call 117; with_reducible refine Calls.keepsK (HRt.out _ (KWorld.keep _))) | (go_at_call 93; with_reducible refine Calls.sameK (HVs.out _ (KWorld.keep _))))))); refine wpQuiet_nil ?_; rintro wq ⟨⟨_, hkq⟩, rfl⟩; try dsimp only
    replace z0 := hkq.cell z0
    replace z1 := hkq.cell z1
    replace zf := fun o : Nat => hkq.frz (a := ⟨w.heap.size + 1, o, none⟩) (by dsimp only; omega) (zf o)
    have s2 := hkq.size
    have hwl : w.heap.size + 1 < wq.heap.size := by omega
    have hkw2 := hkw.trans hkq
    clear k0k k1k
    go_wp2_with fail
    all_goals refine bodyPost_ret (v := .tuple #[.agg #[.int .u8 0, .int .u32 0], .int .u8 1]) (by simp [results, Tryz.results42, go_sem, hwl, z0, z1]) rfl ⟨rfl, by (exact kp)⟩

end Go.Proofs.YtoeoehbpahodnaaGreat
