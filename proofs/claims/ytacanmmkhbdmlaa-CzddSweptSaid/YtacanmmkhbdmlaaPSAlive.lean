/-
  Layer 11's example; store.Ids.
-/
import Derived.Test.YtacanmmkhbdmlaaPBuiltA
import Derived.Test.YtacanmmkhbdmlaaPCollectW
import Derived.Test.YtacanmmkhbdmlaaPSFindA
namespace Go.Proofs.Ytacanmmkhbdmlaa
set_option linter.unusedSimpArgs false
set_option linter.unusedVariables false
set_option maxHeartbeats 600000
open Go.RowKit

def sR : Rec := ⟨1, 0, 0, ⟨0, 0⟩, ⟨0, 1⟩⟩

def sM1 : St := ⟨[some sR], [], 2, 5⟩

theorem sR_ok : sR.ok := ⟨by decide, by decide, by decide, ⟨by decide, by decide⟩, ⟨by decide, by decide⟩⟩

theorem sfind1 {F : Nat → Prop} {w : World} {sb : Nat} (h : StoreRep F w sb (St.new 2 5)) :
    Calls Try.prog 53 #[.pointer (some ⟨sb, 0, none⟩), .agg #[.int .u8 sR.form, .int .u8 sR.top, .int .u8 sR.bot, .int .u8 sR.lo.tag, .int .u32 sR.lo.to, .int .u8 sR.hi.tag, .int .u32 sR.hi.to]] w fun e w' => e = .returned (.tuple #[.int .u32 2, .int .u8 0]) ∧ Upd F w w' ∧ StoreRep (Grow F w w') w' sb sM1 := store_find h sR sR_ok

theorem sfind2 {F : Nat → Prop} {w : World} {sb : Nat} (h : StoreRep F w sb sM1) :
    Calls Try.prog 53 #[.pointer (some ⟨sb, 0, none⟩), .agg #[.int .u8 sR.form, .int .u8 sR.top, .int .u8 sR.bot, .int .u8 sR.lo.tag, .int .u32 sR.lo.to, .int .u8 sR.hi.tag, .int .u32 sR.hi.to]] w fun e w' => e = .returned (.tuple #[.int .u32 2, .int .u8 0]) ∧ Upd F w w' ∧ StoreRep (Grow F w w') w' sb sM1 := store_find h sR sR_ok

theorem slen {F : Nat → Prop} {w : World} {sb : Nat} (h : StoreRep F w sb sM1) :
    Calls Try.prog 20 #[.pointer (some ⟨sb, 0, none⟩)] w fun e w' => e = .returned (.int .i64 1) ∧ w = w' := store_len h

set_option maxRecDepth 100000 in
theorem s_alive (w : World) : Calls Try.prog 22 #[] w fun e w' => e = .returned (.bool true) ∧ Keeps w w' := by
  go_enter Try.func22, Try.ntmps22
  go_wp2_with (go_at_call 15; refine (store_new 2 5 _ (by decide) (by decide) (by decide) (by decide)).mono ?_; rintro e w1 ⟨sb, F, rfl, hk, hF, hS⟩)
  refine (sfind1 (hS.keeps ((Keeps.refl _).alloc _))).mono ?_
  rintro e w2 ⟨rfl, hu, hS2⟩
  have n1 : ¬ F w1.heap.size := fun h => by have := hS.lt _ h; omega
  obtain ⟨x0, x1, x2, x3, x4, x5, x6⟩ := show (w2.cell? ⟨w1.heap.size, 0, none⟩ = some (.int .u8 sR.form) ∧ w2.cell? ⟨w1.heap.size, 1, none⟩ = some (.int .u8 sR.top) ∧ w2.cell? ⟨w1.heap.size, 2, none⟩ = some (.int .u8 sR.bot) ∧ w2.cell? ⟨w1.heap.size, 3, none⟩ = some (.int .u8 sR.lo.tag) ∧ w2.cell? ⟨w1.heap.size, 4, none⟩ = some (.int .u32 sR.lo.to) ∧ w2.cell? ⟨w1.heap.size, 5, none⟩ = some (.int .u8 sR.hi.tag) ∧ w2.cell? ⟨w1.heap.size, 6, none⟩ = some (.int .u32 sR.hi.to)) from ⟨hu.cell (a := ⟨w1.heap.size, 0, none⟩) n1 (by simp [sR]), hu.cell (a := ⟨w1.heap.size, 1, none⟩) n1 (by simp [sR]), hu.cell (a := ⟨w1.heap.size, 2, none⟩) n1 (by simp [sR]), hu.cell (a := ⟨w1.heap.size, 3, none⟩) n1 (by simp [sR]), hu.cell (a := ⟨w1.heap.size, 4, none⟩) n1 (by simp [sR]), hu.cell (a := ⟨w1.heap.size, 5, none⟩) n1 (by simp [sR]), hu.cell (a := ⟨w1.heap.size, 6, none⟩) n1 (by simp [sR])⟩
  have hk2 : Keeps w w2 := (hk.alloc _).new hu hF
  have hs1 := hk.size
  have hs2 := hu.size
  simp only [World.size_alloc] at hs2
  have HS2 := Lib.hid hS2
  have HF := Lib.hid hF
  clear hS hu hF hS2 n1
  simp only [sR] at x0 x1 x2 x3 x4 x5 x6
  go_wp2_with fail
  refine (sfind2 HS2.out).mono ?_
  rintro e w3 ⟨rfl, hu3, hS3⟩
  have hk3 : Keeps w w3 := hk2.new hu3 (fun k hk => by
    rcases hk with hk | hk
    · exact HF.out k hk
    · have := hk.1
      simp only [World.size_alloc] at this
      omega)
  have HS3 := Lib.hid hS3
  clear hu3 hS3
  go_wp2_with (go_at_call 20; refine (slen HS3.out).mono ?_; rintro e w' ⟨rfl, rfl⟩)
  go_ret
  exact ⟨rfl, by (repeat (first | with_reducible exact Keeps.refl _ | with_reducible assumption | with_reducible refine Keeps.alloc ?_ _ | with_reducible refine Keeps.drewN ?_ _ | with_reducible refine Keeps.drew ?_ | refine Keeps.setCell ?_ (by dsimp only; omega) _ | with_reducible refine Keeps.trans ?_ (by assumption)))⟩

set_option maxRecDepth 100000 in
theorem arena_ids (ab : Nat) (w : World) : Calls Try.prog 76 #[.pointer (some ⟨ab, 0, none⟩)] w fun e w' =>
    e = .returned (.func (.func 107) #[] #[.pointer (some ⟨w.heap.size, 0, none⟩)]) ∧ w'.cell? ⟨w.heap.size, 0, none⟩ = some (.pointer (some ⟨ab, 0, none⟩)) ∧ Keeps w w' := by
  go_enter Try.func76, Try.ntmps76
  go_wp2
  go_ret
  exact ⟨rfl, by simp [go_sem], by (repeat (first | with_reducible exact Keeps.refl _ | with_reducible assumption | with_reducible refine Keeps.alloc ?_ _ | with_reducible refine Keeps.drewN ?_ _ | with_reducible refine Keeps.drew ?_ | refine Keeps.setCell ?_ (by dsimp only; omega) _ | with_reducible refine Keeps.trans ?_ (by assumption)))⟩

set_option maxRecDepth 100000 in
theorem store_ids {F : Nat → Prop} {w : World} {sb : Nat} {M : St} (h : StoreRep F w sb M) :
    Calls Try.prog 51 #[.pointer (some ⟨sb, 0, none⟩)] w fun e w' => ∃ bx, e = .returned (.func (.func 107) #[] #[.pointer (some ⟨bx, 0, none⟩)]) ∧ Keeps w w' ∧
      (∀ St, (∀ A, St A → Keeps w' A) → Iter Try.prog 107 #[.pointer (some ⟨bx, 0, none⟩)] (idsL M.cs) 0 St) := by
  obtain ⟨⟨ab, ib, ts, Fa, Fi, h1, h2, -⟩, -⟩ := h
  have c1 : w.cell? ⟨sb, 1, none⟩ = some (.pointer (some ⟨ab, 0, none⟩)) := by rw [cell_of_row w sb 1 _ _ _ h1]; rfl
  have HR := Lib.hid h2
  clear h1 h2
  go_enter Try.func51, Try.ntmps51
  go_wp2_with (go_at_call 76; refine (arena_ids ab _).mono ?_; rintro e w1 ⟨rfl, hc, hk⟩)
  go_ret
  exact ⟨_, rfl, hk, fun St hSt => ids1_iter (fun A hA => ⟨(HR.out.keeps hk).keeps (hSt A hA), (hSt A hA).cell hc⟩)⟩

set_option maxRecDepth 100000 in
theorem ids_enter (args : Array Value) (w : World) : (callFunc 107 args).run Try.prog w = .ok (.enter 107 args) w := enters_of Try.func107 (by kernel_rfl) rfl args w

set_option maxRecDepth 100000 in
theorem take_enter (args : Array Value) (w : World) : (callFunc 126 args).run Try.prog w = .ok (.enter 126 args) w := enters_of Try.func126 (by kernel_rfl) rfl args w

set_option maxRecDepth 100000 in
/-- All ids of a store, collected. -/
theorem collect_ids {w w1 : World} {bx : Nat} {M : St} (nn : Int) (hit : ∀ St, (∀ A, St A → Keeps w1 A) → Iter Try.prog 107 #[.pointer (some ⟨bx, 0, none⟩)] (idsL M.cs) 0 St) (hk : Keeps w1 w) (hlen : ((idsL M.cs).length : Int) < nn) (hn : nn ≤ 1048576) :
    Calls Try.prog 50 #[.func (.func 107) #[] #[.pointer (some ⟨bx, 0, none⟩)], .int .i64 nn] w fun e w' => ∃ v, e = .returned v ∧ IdRow w' v (idsL M.cs) ∧ Keeps w w' :=
  collect_calls (hit (fun A => Keeps w A) (fun A hA => hk.trans hA)) (fun A hA => hA) ids_enter take_enter hlen hn

theorem collect_ids2 {w w1 : World} {bx : Nat} {M : St} (nn : Int) (hit : ∀ St, (∀ A, St A → Keeps w1 A) → Iter Try.prog 107 #[.pointer (some ⟨bx, 0, none⟩)] (idsL M.cs) 0 St) (hk : Keeps w1 w) (hlen : ((idsL M.cs).length : Int) < nn) (hn : nn ≤ 1048576) :
    Calls Try.prog 50 #[.func (.func 107) #[] #[.pointer (some ⟨bx, 0, none⟩)], .int .i64 nn] w fun e w' => ∃ v, e = .returned v ∧ IdRow w' v (idsL M.cs) ∧ Keeps w w' ∧ ∀ g, v.ownBlock = some g → w.heap.size ≤ g :=
  collect_calls2 (hit (fun A => Keeps w A) (fun A hA => hk.trans hA)) (fun A hA => hA) ids_enter take_enter hlen hn

end Go.Proofs.Ytacanmmkhbdmlaa
