/-
  The chapter's example of czdd (printed by wip/mk_alive.py).
-/
import Derived.Test.YtacanmmkhbdmlaaPBuiltA
import Derived.Test.YtacanmmkhbdmlaaPMSA
namespace Go.Proofs.Ytacanmmkhbdmlaa
set_option linter.unusedSimpArgs false
set_option linter.unusedVariables false
set_option maxHeartbeats 600000
open Go.RowKit

def qM1 : St := ⟨[some ⟨4, 1, 1, ⟨0, 1⟩, ⟨0, 1⟩⟩], [], 2, 5⟩

def qM2 : St := ⟨[some ⟨4, 1, 1, ⟨0, 1⟩, ⟨0, 1⟩⟩, some ⟨4, 0, 1, ⟨0, 1⟩, ⟨0, 1⟩⟩], [], 2, 5⟩

theorem qA1 : makeAct (St.new 2 5) 4 1 ⟨0, 1⟩ ⟨0, 1⟩ (qRest (St.new 2 5) 1 ⟨0, 1⟩ ⟨0, 1⟩) = .inr ⟨4, 1, 1, ⟨0, 1⟩, ⟨0, 1⟩⟩ := by rfl

theorem qA2 : makeAct qM1 4 0 ⟨0, 2⟩ ⟨0, 2⟩ (qRest qM1 0 ⟨0, 2⟩ ⟨0, 2⟩) = .inr ⟨4, 0, 1, ⟨0, 1⟩, ⟨0, 1⟩⟩ := by rfl

theorem qB1 : foundE (St.new 2 5) 0 ⟨4, 1, 1, ⟨0, 1⟩, ⟨0, 1⟩⟩ = ⟨0, 2⟩ ∧ (St.new 2 5).findErr ⟨4, 1, 1, ⟨0, 1⟩, ⟨0, 1⟩⟩ = 0 ∧ (St.new 2 5).findSt ⟨4, 1, 1, ⟨0, 1⟩, ⟨0, 1⟩⟩ = qM1 := ⟨rfl, rfl, rfl⟩

theorem qB2 : foundE qM1 0 ⟨4, 0, 1, ⟨0, 1⟩, ⟨0, 1⟩⟩ = ⟨0, 3⟩ ∧ qM1.findErr ⟨4, 0, 1, ⟨0, 1⟩, ⟨0, 1⟩⟩ = 0 ∧ qM1.findSt ⟨4, 0, 1, ⟨0, 1⟩, ⟨0, 1⟩⟩ = qM2 := ⟨rfl, rfl, rfl⟩

theorem qmk1 {F : Nat → Prop} {w : World} {sb : Nat} (h : StoreRep F w sb (St.new 2 5)) :
    Calls Try.prog 73 #[.pointer (some ⟨sb, 0, none⟩), .int .i64 1, .agg #[.int .u8 0, .int .u32 1], .agg #[.int .u8 0, .int .u32 1]] w fun e w' =>
      e = .returned (.tuple #[.agg #[.int .u8 0, .int .u32 2], .int .u8 0]) ∧ Upd F w w' ∧ StoreRep (Grow F w w') w' sb qM1 := by
  have := czdd_make h 1 ⟨0, 1⟩ ⟨0, 1⟩ ⟨by decide, by decide⟩ ⟨by decide, by decide⟩
  rw [qA1] at this
  simp only [actE0, actErr, actSt, qB1.1, qB1.2.1, qB1.2.2] at this
  exact this

theorem qmk2 {F : Nat → Prop} {w : World} {sb : Nat} (h : StoreRep F w sb qM1) :
    Calls Try.prog 73 #[.pointer (some ⟨sb, 0, none⟩), .int .i64 0, .agg #[.int .u8 0, .int .u32 2], .agg #[.int .u8 0, .int .u32 2]] w fun e w' =>
      e = .returned (.tuple #[.agg #[.int .u8 0, .int .u32 3], .int .u8 0]) ∧ Upd F w w' ∧ StoreRep (Grow F w w') w' sb qM2 := by
  have := czdd_make h 0 ⟨0, 2⟩ ⟨0, 2⟩ ⟨by decide, by decide⟩ ⟨by decide, by decide⟩
  rw [qA2] at this
  simp only [actE0, actErr, actSt, qB2.1, qB2.2.1, qB2.2.2] at this
  exact this

theorem qget {F : Nat → Prop} {w : World} {sb : Nat} (h : StoreRep F w sb qM2) :
    Calls Try.prog 54 #[.pointer (some ⟨sb, 0, none⟩), .int .u32 3] w fun e w' =>
      e = .returned (.tuple #[.agg #[.int .u8 4, .int .u8 0, .int .u8 1, .int .u8 0, .int .u32 1, .int .u8 0, .int .u32 1], .bool true]) ∧ Keeps w w' := by
  have := store_get h 3 (by decide)
  rw [show look qM2.cs 3 = some ⟨4, 0, 1, ⟨0, 1⟩, ⟨0, 1⟩⟩ from rfl] at this
  exact this

set_option maxRecDepth 100000 in
theorem q_alive (w : World) : Calls Try.prog 25 #[] w fun e w' => e = .returned (.bool true) ∧ Keeps w w' := by
  have q1 := eql_edge_same ⟨0, 1⟩ ⟨0, 1⟩ rfl
  have q2 := eql_edge_same ⟨0, 0⟩ ⟨0, 0⟩ rfl
  go_enter Try.func25, Try.ntmps25
  go_wp2_with (go_at_call 15; refine (store_new 2 5 _ (by decide) (by decide) (by decide) (by decide)).mono ?_; rintro e w1 ⟨sb, F, rfl, hk, hF, hS⟩)
  refine (qmk1 (hS.keeps ((Keeps.refl _).alloc _))).mono ?_
  rintro e w2 ⟨rfl, hu, hS2⟩
  have n1 : ¬ F w1.heap.size := fun h => by have := hS.lt _ h; omega
  have c0 := hu.cell (a := ⟨w1.heap.size, 0, none⟩) n1 (v := .int .u8 0) (by simp [go_sem])
  have c1 := hu.cell (a := ⟨w1.heap.size, 1, none⟩) n1 (v := .int .u32 1) (by simp [go_sem])
  have hk2 : Keeps w w2 := (hk.alloc _).new hu hF
  have hs2 := hu.size
  simp only [World.size_alloc] at hs2
  have hlt1 : w1.heap.size < w2.heap.size := by omega
  have hsk := hk.size
  have n2 : ¬ Grow F (w1.alloc (.cells #[.int .u8 0, .int .u32 1] 35)) w2 w1.heap.size := by
    rintro (h | h)
    · exact n1 h
    · simp only [World.size_alloc] at h
      omega
  have n3 : ¬ Grow F (w1.alloc (.cells #[.int .u8 0, .int .u32 1] 35)) w2 w2.heap.size := fun h => by have := hS2.lt _ h; omega
  have hF2 : ∀ k, Grow F (w1.alloc (.cells #[.int .u8 0, .int .u32 1] 35)) w2 k → w.heap.size ≤ k := by
    rintro k (h | h)
    · exact hF k h
    · simp only [World.size_alloc] at h
      omega
  have HS2 := Lib.hid hS2
  have HF2 := Lib.hid hF2
  have N2 := Lib.hid n2
  have N3 := Lib.hid n3
  clear hS hS2 hF hF2 n1 n2 n3 hu hs2
  go_wp2_with fail
  refine (qmk2 (HS2.out.keeps ((Keeps.refl _).alloc _))).mono ?_
  rintro e w3 ⟨rfl, hu, hS3⟩
  have d0 := hu.cell (a := ⟨w1.heap.size, 0, none⟩) N2.out (v := .int .u8 0) (by simp [go_sem, c0, hlt1])
  have d1 := hu.cell (a := ⟨w1.heap.size, 1, none⟩) N2.out (v := .int .u32 1) (by simp [go_sem, c1, hlt1])
  have f0 := hu.cell (a := ⟨w2.heap.size, 0, none⟩) N3.out (v := .int .u8 0) (by simp [go_sem])
  have f1 := hu.cell (a := ⟨w2.heap.size, 1, none⟩) N3.out (v := .int .u32 2) (by simp [go_sem])
  have hk3 : Keeps w w3 := (hk2.alloc _).new hu HF2.out
  have hs3 := hu.size
  simp only [World.size_alloc] at hs3
  have hlt2 : w1.heap.size < w3.heap.size := by omega
  have hlt3 : w2.heap.size < w3.heap.size := by omega
  have HS3 := Lib.hid hS3
  clear c0 c1 hu hS3
  go_wp2_with fail
  refine (qget (HS3.out.keeps ((Keeps.refl _).alloc _))).mono ?_
  rintro e w4 ⟨rfl, hb⟩
  have hs4 := hb.size
  simp only [World.size_alloc] at hs4
  have g0 := hb.cell (a := ⟨w1.heap.size, 0, none⟩) (v := .int .u8 0) (by simp [go_sem, d0, hlt2])
  have g1 := hb.cell (a := ⟨w1.heap.size, 1, none⟩) (v := .int .u32 1) (by simp [go_sem, d1, hlt2])
  have hlt4 : w1.heap.size < w4.heap.size := by omega
  have hk4 : Keeps w w4 := (hk3.alloc _).trans hb
  clear d0 d1 f0 f1
  go_wp2
  go_ret
  exact ⟨rfl, by (repeat (first | with_reducible exact Keeps.refl _ | with_reducible assumption | with_reducible refine Keeps.alloc ?_ _ | with_reducible refine Keeps.drewN ?_ _ | with_reducible refine Keeps.drew ?_ | refine Keeps.setCell ?_ (by dsimp only; omega) _ | with_reducible refine Keeps.trans ?_ (by assumption)))⟩

end Go.Proofs.Ytacanmmkhbdmlaa
