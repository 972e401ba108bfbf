/-
  The chapter's example of tbdd.
-/
import Derived.Test.YtacanmmkhbdmlaaPBuiltA
import Derived.Test.YtacanmmkhbdmlaaPTMakeA
namespace Go.Proofs.Ytacanmmkhbdmlaa
set_option linter.unusedSimpArgs false
set_option linter.unusedVariables false
set_option maxHeartbeats 600000
open Go.RowKit

theorem tA1 : tAct (St.new 1 5) 0 ⟨1, 1⟩ ⟨1, 1⟩ = .inl (⟨1, 1⟩, 0) := by rfl

theorem tA2 : tAct (St.new 1 5) 0 ⟨1, 1⟩ ⟨0, 0⟩ = .inl (⟨0, 1⟩, 0) := by rfl

theorem tmk1 {F : Nat → Prop} {w : World} {sb : Nat} (h : StoreRep F w sb (St.new 1 5)) :
    Calls Try.prog 58 #[.pointer (some ⟨sb, 0, none⟩), .int .i64 0, .agg #[.int .u8 1, .int .u32 1], .agg #[.int .u8 1, .int .u32 1]] w fun e w' =>
      e = .returned (.tuple #[.agg #[.int .u8 1, .int .u32 1], .int .u8 0]) ∧ Upd F w w' ∧ StoreRep (Grow F w w') w' sb (St.new 1 5) := by
  have := tbdd_make h 0 ⟨1, 1⟩ ⟨1, 1⟩ ⟨by decide, by decide⟩ ⟨by decide, by decide⟩
  rw [tA1] at this
  exact this

theorem tmk2 {F : Nat → Prop} {w : World} {sb : Nat} (h : StoreRep F w sb (St.new 1 5)) :
    Calls Try.prog 58 #[.pointer (some ⟨sb, 0, none⟩), .int .i64 0, .agg #[.int .u8 1, .int .u32 1], .agg #[.int .u8 0, .int .u32 0]] w fun e w' =>
      e = .returned (.tuple #[.agg #[.int .u8 0, .int .u32 1], .int .u8 0]) ∧ Upd F w w' ∧ StoreRep (Grow F w w') w' sb (St.new 1 5) := by
  have := tbdd_make h 0 ⟨1, 1⟩ ⟨0, 0⟩ ⟨by decide, by decide⟩ ⟨by decide, by decide⟩
  rw [tA2] at this
  exact this

set_option maxRecDepth 100000 in
theorem t_alive (w : World) : Calls Try.prog 14 #[] w fun e w' => e = .returned (.bool true) ∧ Keeps w w' := by
  go_enter Try.func14, Try.ntmps14
  go_wp2_with (go_at_call 15; refine (store_new 1 5 _ (by decide) (by decide) (by decide) (by decide)).mono ?_; rintro e w1 ⟨sb, F, rfl, hk, hF, hS⟩)
  refine (tmk1 (hS.keeps ((Keeps.refl _).alloc _))).mono ?_
  rintro e w2 ⟨rfl, hu, hS2⟩
  have n1 : ¬ F w1.heap.size := fun h => by have := hS.lt _ h; omega
  have c0 := hu.cell (a := ⟨w1.heap.size, 0, none⟩) n1 (v := .int .u8 1) (by simp [go_sem])
  have c1 := hu.cell (a := ⟨w1.heap.size, 1, none⟩) n1 (v := .int .u32 1) (by simp [go_sem])
  have hk2 : Keeps w w2 := (hk.alloc _).new hu hF
  have hs2 := hu.size
  simp only [World.size_alloc] at hs2
  have hlt1 : w1.heap.size < w2.heap.size := by omega
  have hsk := hk.size
  have n2 : ¬ Grow F (w1.alloc (.cells #[.int .u8 1, .int .u32 1] 35)) w2 w1.heap.size := by
    rintro (h | h)
    · exact n1 h
    · simp only [World.size_alloc] at h
      omega
  have n3 : ¬ Grow F (w1.alloc (.cells #[.int .u8 1, .int .u32 1] 35)) w2 w2.heap.size := fun h => by have := hS2.lt _ h; omega
  have hF2 : ∀ k, Grow F (w1.alloc (.cells #[.int .u8 1, .int .u32 1] 35)) w2 k → w.heap.size ≤ k := by
    rintro k (h | h)
    · exact hF k h
    · simp only [World.size_alloc] at h
      omega
  have HS2 := Lib.hid hS2
  have HF2 := Lib.hid hF2
  have N2 := Lib.hid n2
  have N3 := Lib.hid n3
  clear hS hS2 hF hF2 n1 n2 n3 hu hs2
  go_wp2_with fail
  refine (tmk2 (HS2.out.keeps ((Keeps.refl _).alloc _))).mono ?_
  rintro e w3 ⟨rfl, hu, hS3⟩
  have d0 := hu.cell (a := ⟨w1.heap.size, 0, none⟩) N2.out (v := .int .u8 1) (by simp [go_sem, c0, hlt1])
  have d1 := hu.cell (a := ⟨w1.heap.size, 1, none⟩) N2.out (v := .int .u32 1) (by simp [go_sem, c1, hlt1])
  have f0 := hu.cell (a := ⟨w2.heap.size, 0, none⟩) N3.out (v := .int .u8 1) (by simp [go_sem])
  have f1 := hu.cell (a := ⟨w2.heap.size, 1, none⟩) N3.out (v := .int .u32 1) (by simp [go_sem])
  have hk3 : Keeps w w3 := (hk2.alloc _).new hu HF2.out
  have hs3 := hu.size
  simp only [World.size_alloc] at hs3
  have hlt2 : w1.heap.size < w3.heap.size := by omega
  have hlt3 : w2.heap.size < w3.heap.size := by omega
  clear c0 c1 hu hS3
  go_wp2
  go_ret
  exact ⟨rfl, by (repeat (first | with_reducible exact Keeps.refl _ | with_reducible assumption | with_reducible refine Keeps.alloc ?_ _ | with_reducible refine Keeps.drewN ?_ _ | with_reducible refine Keeps.drew ?_ | refine Keeps.setCell ?_ (by dsimp only; omega) _ | with_reducible refine Keeps.trans ?_ (by assumption)))⟩

end Go.Proofs.Ytacanmmkhbdmlaa
