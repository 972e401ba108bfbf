/-
  Layer 17's example: one cube.
-/
import Derived.Test.YtiacdpoldgfpbaaGreatPCubexF
namespace Go.Proofs.YtiacdpoldgfpbaaGreat
set_option linter.unusedSimpArgs false
set_option linter.unusedVariables false
set_option maxHeartbeats 600000
open Go.RowKit

def kM1 : St := ⟨[some ⟨2, 1, 1, ⟨0, 0⟩, ⟨0, 1⟩⟩], [], 3, 5⟩

theorem kCube : cubeGo 2 0 2 5 3 (St.new 3 5) (oneE 2 3) = (⟨0, 2⟩, 0, kM1) := by rfl

theorem kcube {F : Nat → Prop} {w : World} {sb : Nat} (h : StoreRep F w sb (St.new 3 5)) :
    Calls Tryz.prog 10 #[.pointer (some ⟨sb, 0, none⟩), .int .u8 2, .int .i64 0, .int .u16 2, .int .u16 5] w fun e w' =>
      e = .returned (.tuple #[.agg #[.int .u8 0, .int .u32 2], .int .u8 0]) ∧ Upd F w w' ∧ StoreRep (Grow F w w') w' sb kM1 := by
  have := cube_calls h 2 0 2 5 (by decide) (by decide) rfl (by decide) (by decide) (by decide) (by decide) rfl rfl rfl
  have e : cubeGo 2 0 2 5 ((St.new 3 5).n - 0).toNat (St.new 3 5) (oneE 2 (St.new 3 5).n) = (⟨0, 2⟩, 0, kM1) := kCube
  rw [e] at this
  exact this

theorem kget {F : Nat → Prop} {w : World} {sb : Nat} (h : StoreRep F w sb kM1) :
    Calls Tryz.prog 37 #[.pointer (some ⟨sb, 0, none⟩), .int .u32 2] w fun e w' =>
      e = .returned (.tuple #[.agg #[.int .u8 2, .int .u8 1, .int .u8 1, .int .u8 0, .int .u32 0, .int .u8 0, .int .u32 1], .bool true]) ∧ Keeps w w' := by
  have := store_get h 2 (by decide)
  rw [show look kM1.cs 2 = some ⟨2, 1, 1, ⟨0, 0⟩, ⟨0, 1⟩⟩ from rfl] at this
  exact this

theorem klen {F : Nat → Prop} {w : World} {sb : Nat} (h : StoreRep F w sb kM1) :
    Calls Tryz.prog 13 #[.pointer (some ⟨sb, 0, none⟩)] w fun e w' => e = .returned (.int .i64 1) ∧ w = w' := store_len h

set_option maxRecDepth 100000 in
theorem k_alive (w : World) : Calls Tryz.prog 8 #[] w fun e w' => e = .returned (.bool true) ∧ Keeps w w' := by
  have q1 := eql_edge_same ⟨0, 1⟩ ⟨0, 1⟩ rfl
  have q2 := eql_edge_same ⟨0, 0⟩ ⟨0, 0⟩ rfl
  go_enter Tryz.func8, Tryz.ntmps8
  go_wp2_with (go_at_call 9; refine (store_new 3 5 _ (by decide) (by decide) (by decide) (by decide)).mono ?_; rintro e w1 ⟨sb, F, rfl, hk, hF, hS⟩)
  refine (kcube hS).mono ?_
  rintro e w2 ⟨rfl, hu, hS2⟩
  have hk2 : Keeps w w2 := hk.new hu hF
  have HS2 := Lib.hid hS2
  clear hS hu hF hS2
  go_wp2_with fail
  refine (kget (HS2.out.keeps ((Keeps.refl _).alloc _))).mono ?_
  rintro e w3 ⟨rfl, hb⟩
  have hk3 : Keeps w2 w3 := ((Keeps.refl _).alloc _).trans hb
  have hk4 : Keeps w w3 := hk2.trans hk3
  have HL := Lib.hid (klen ((HS2.out.keeps hk3).keeps ((Keeps.refl _).alloc (.cells #[.int .u8 2, .int .u8 1, .int .u8 1, .int .u8 0, .int .u32 0, .int .u8 0, .int .u32 1] 72))))
  clear hb hk3
  go_wp2_with (go_at_call 13; refine HL.out.mono ?_; rintro e w' ⟨rfl, rfl⟩)
  go_ret
  exact ⟨rfl, by (exact kp)⟩

end Go.Proofs.YtiacdpoldgfpbaaGreat
