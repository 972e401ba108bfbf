/-
  Proved: the statement ConvertNil, for every input.
-/
import Derived.Test.YtiacdpoldgfpbaaPConvA0
import Derived.Test.YtiacdpoldgfpbaaPLawBase
import Derived.Test.YtiacdpoldgfpbaaRows
namespace Go.Proofs.Ytiacdpoldgfpbaa
set_option linter.unusedSimpArgs false
set_option linter.unusedVariables false
set_option maxHeartbeats 600000
open Go.ChangeShapes Go.WideShapes Go.ChangeAt Go.RowKit

set_option maxRecDepth 100000 in
set_option maxHeartbeats 1000000 in
theorem convertNil_walk (f g : Int) (a b : Edge) (w : World) (_ : (Lit.int .u8 f).wf = true) (_ : (Lit.int .u8 g).wf = true) (_ : a.ok) (_ : b.ok) :
    Calls Try.prog 3 #[.int .u8 f, .int .u8 g, .agg #[.int .u8 a.tag, .int .u32 a.to], .agg #[.int .u8 b.tag, .int .u32 b.to]] w fun e w' => e = .returned (.bool true) ∧ Keeps w w' := by
  have HA := Lib.hid (fun (W : World) => l25_alive W)
  have H1 := Lib.hid (fun (W : World) => to_nil f g a W)
  have H2 := Lib.hid (fun (W : World) => tidy_nil f a W)
  have H3 := Lib.hid (fun (W : World) => each_nil f a W)
  have H4 := Lib.hid (fun (W : World) => csame_nil f g a b W)
  go_enter Try.func3, Try.ntmps3
  go_wp2_with fail
  refine (HA.out _).mono ?_
  rintro e w1 ⟨rfl, hk1⟩
  have y0 := hk1.cell (a := ⟨w.heap.size, 0, none⟩) (v := .int .u8 a.tag) (by simp [go_sem])
  have y1 := hk1.cell (a := ⟨w.heap.size, 1, none⟩) (v := .int .u32 a.to) (by simp [go_sem])
  have u0 := hk1.cell (a := ⟨w.heap.size + 1, 0, none⟩) (v := .int .u8 b.tag) (by simp [go_sem])
  have u1 := hk1.cell (a := ⟨w.heap.size + 1, 1, none⟩) (v := .int .u32 b.to) (by simp [go_sem])
  have hw1 : Keeps w w1 := by (repeat (first | with_reducible exact Keeps.refl _ | with_reducible assumption | with_reducible refine Keeps.alloc ?_ _ | with_reducible refine Keeps.drewN ?_ _ | with_reducible refine Keeps.drew ?_ | refine Keeps.setCell ?_ (by dsimp only; omega) _ | with_reducible refine Keeps.trans ?_ (by assumption)))
  have HW1 := Lib.hid hw1
  clear hk1 hw1
  go_wp2_with fail
  refine (H1.out _).mono ?_
  rintro e w2 ⟨rfl, hk2⟩
  replace y0 := hk2.cell y0
  replace y1 := hk2.cell y1
  replace u0 := hk2.cell u0
  replace u1 := hk2.cell u1
  have HW2 := Lib.hid (HW1.out.trans hk2)
  have l0 : w.heap.size < w2.heap.size := lt_of_cell y0
  have l1 : w.heap.size + 1 < w2.heap.size := lt_of_cell u0
  clear hk2
  go_wp2_with fail
  refine (H2.out _).mono ?_
  rintro e w3 ⟨rfl, hk3⟩
  have p0 := hk3.cell (a := ⟨w2.heap.size, 0, none⟩) (v := .int .u8 0) (by simp [go_sem])
  have p1 := hk3.cell (a := ⟨w2.heap.size, 1, none⟩) (v := .int .u32 0) (by simp [go_sem])
  have hk3' : Keeps w2 w3 := ((Keeps.refl _).alloc _).trans hk3
  replace y0 := hk3'.cell y0
  replace y1 := hk3'.cell y1
  replace u0 := hk3'.cell u0
  replace u1 := hk3'.cell u1
  have HW3 := Lib.hid (HW2.out.trans hk3')
  replace l0 : w.heap.size < w3.heap.size := lt_of_cell y0
  replace l1 : w.heap.size + 1 < w3.heap.size := lt_of_cell u0
  have l2 : w2.heap.size < w3.heap.size := lt_of_cell p0
  clear hk3 hk3'
  go_wp2_with fail
  refine (H3.out _).mono ?_
  rintro e w4 ⟨rfl, hk4⟩
  have q0 := hk4.cell (a := ⟨w3.heap.size, 0, none⟩) (v := .int .u8 0) (by simp [go_sem])
  have q1 := hk4.cell (a := ⟨w3.heap.size, 1, none⟩) (v := .int .u32 0) (by simp [go_sem])
  have hk4' : Keeps w3 w4 := ((Keeps.refl _).alloc _).trans hk4
  replace y0 := hk4'.cell y0
  replace y1 := hk4'.cell y1
  replace u0 := hk4'.cell u0
  replace u1 := hk4'.cell u1
  replace p0 := hk4'.cell p0
  replace p1 := hk4'.cell p1
  have HW4 := Lib.hid (HW3.out.trans hk4')
  clear hk4 hk4' l0 l1 l2
  go_wp2_with fail
  refine (H4.out _).mono ?_
  rintro e w5 ⟨rfl, hk5⟩
  replace p0 := hk5.cell p0
  replace p1 := hk5.cell p1
  replace q0 := hk5.cell q0
  replace q1 := hk5.cell q1
  have HW5 := Lib.hid (HW4.out.trans hk5)
  clear hk5 y0 y1 u0 u1
  go_wp2_with fail
  go_ret
  exact ⟨rfl, HW5.out⟩

set_option maxRecDepth 100000 in
theorem convertNil_lifted (os : Os) (started : os.Started) (H : Type) (enc : TypeId × Value → H) :
    ReturnsInHanded {} Try.checked os 3 .any (Rows.convertNilSpec.pre6 enc Try.prog Try.f3 Rows.convertNilRow.domain false) (Rows.convertNilSpec.post enc Try.prog Try.f3 false true false false) := by
  refine returnsInHanded_of_change (C := Try.checked) own started (by kernel_rfl) Try.func3
    (ChangeSpec.witness6 (enc := enc) (C := Try.checked) false ⟨#[], #[.int .u8 0, .int .u8 0, .agg #[.int .u8 0, .int .u32 0], .agg #[.int .u8 0, .int .u32 0]], []⟩ 12 (by kernel_rfl) (by kernel_rfl) (by kernel_rfl) (by kernel_rfl)) ?_
  intro W base args ds gs before hval0 hW hcnd _
  have hval : ∀ (j : Nat) t v, Try.f3.params[j]? = some t → args[j]? = some v → Value.okWide Try.prog W .any base t v := hval0
  have hW' := hW
  obtain ⟨p, q, hA0, hV, rfl, hfz, hnd⟩ := hW
  have hA : DataW.TrodAll enc Try.prog W 0 (fun _ => true) true Try.f3.params.toList args.toList ds p := hA0
  rw [Try.params3] at hA hval
  have hAk := hA
  obtain ⟨v0, vs0, d0, ds0, p0, q0, hargs, rfl, rfl, h0, r0⟩ := trodAll_cons hA
  obtain ⟨v1, vs1, d1, ds1, p1, q1, rfl, rfl, rfl, h1, r1⟩ := trodAll_cons r0
  obtain ⟨v2, vs2, d2, ds2, p2, q2, rfl, rfl, rfl, h2, r2⟩ := trodAll_cons r1
  obtain ⟨v3, vs3, d3, ds3, p3, q3, rfl, rfl, rfl, h3, r3⟩ := trodAll_cons r2
  obtain ⟨rfl, rfl, rfl⟩ := trodAll_nil r3
  obtain rfl : args = #[v0, v1, v2, v3] := by cases args; simp_all
  obtain ⟨rfl, rfl⟩ := trodVars_none hV
  obtain ⟨a0, rfl, rfl, rfl, w0⟩ := open_int Try.underlying5 (hval 0 5 v0 rfl rfl) h0
  obtain ⟨a1, rfl, rfl, rfl, w1⟩ := open_int Try.underlying5 (hval 1 5 v1 rfl rfl) h1
  obtain ⟨a2, w2, rfl⟩ := open_edge (hval 2 24 v2 rfl rfl) h2
  obtain ⟨a3, w3, rfl⟩ := open_edge (hval 3 24 v3 rfl rfl) h3
  clear hA0 hval0
  refine (convertNil_walk a0 a1 a2 a3 W w0 w1 w2 w3).mono fun e W' ⟨he, bel⟩ => ?_
  subst he
  exact ⟨_, rfl, _, _, _, [], _, [], hW', trodAll_mk1 (shut_bool Try.underlying4 _), trodAll_below laidOut bel _ _ _ _ (by kernel_rfl) hAk, rfl, Below.frame bel _, fun h => by cases h⟩

theorem convertNil_over : Rows.convertNilRow.holds Try.pinned (OpenSpec.ofChange Rows.convertNilSpec) :=
  OpenClaim.holds_of_wide 3 Try.f3 rfl rfl rfl rfl rfl rfl rfl ⟨rfl, rfl, rfl, rfl, rfl⟩ rfl rfl rfl rfl rfl (by kernel_rfl) Try.func3 (by kernel_rfl)
    (of_decide_eq_true (by kernel_rfl)) (by unfold Func.isWrapper; first | (rw [if_pos (by decide +kernel)]; kernel_rfl) | (rw [if_neg (by decide +kernel)]; exact ⟨rfl, rfl⟩))
    (fun os started H enc _ => convertNil_lifted os started H enc)

theorem convertNil_proved : Rows.ConvertNilSaid := convertNil_over

end Go.Proofs.Ytiacdpoldgfpbaa
