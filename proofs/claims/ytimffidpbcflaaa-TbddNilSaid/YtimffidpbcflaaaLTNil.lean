/-
  Proved: the statement TbddNil, for every input (printed by wip/mk_nil.py).
-/
import Derived.Test.YtimffidpbcflaaaRows
import Derived.Test.YtimffidpbcflaaaNilBase
import Derived.Test.YtimffidpbcflaaaOpens
import Derived.Test.YtimffidpbcflaaaTAlive
namespace Go.Proofs.Ytimffidpbcflaaa
set_option linter.unusedSimpArgs false
set_option linter.unusedVariables false
set_option maxHeartbeats 600000
open Go.ChangeShapes Go.WideShapes Go.ChangeAt Go.RowKit

set_option maxRecDepth 100000 in
theorem tbddNil_walk (l : Int) (lo hi : Edge) (w : World) (_ : (Lit.int .i64 l).wf = true) (_ : lo.ok) (_ : hi.ok) :
    Calls Try.prog 4 #[.int .i64 l, .agg #[.int .u8 lo.tag, .int .u32 lo.to], .agg #[.int .u8 hi.tag, .int .u32 hi.to]] w fun e w' => e = .returned (.bool true) ∧ Keeps w w' := by
  have q2 := eql_edge_same ⟨0, 0⟩ ⟨0, 0⟩ rfl
  go_enter Try.func4, Try.ntmps4
  go_wp2_with (go_at_call 14; refine (t_alive _).mono ?_; rintro e w1 ⟨rfl, hb⟩; have y0 := hb.cell (a := ⟨w.heap.size, 0, none⟩) (v := .int .u8 lo.tag) (by simp [go_sem]); have y1 := hb.cell (a := ⟨w.heap.size, 1, none⟩) (v := .int .u32 lo.to) (by simp [go_sem]); have x0 := hb.cell (a := ⟨w.heap.size + 1, 0, none⟩) (v := .int .u8 hi.tag) (by simp [go_sem]); have x1 := hb.cell (a := ⟨w.heap.size + 1, 1, none⟩) (v := .int .u32 hi.to) (by simp [go_sem]); have hk : Keeps w w1 := (by (repeat (first | with_reducible exact Keeps.refl _ | with_reducible assumption | with_reducible refine Keeps.alloc ?_ _ | with_reducible refine Keeps.drewN ?_ _ | with_reducible refine Keeps.drew ?_ | refine Keeps.setCell ?_ (by dsimp only; omega) _ | with_reducible refine Keeps.trans ?_ (by assumption)))); have hsz := hb.size; simp only [World.size_alloc] at hsz; have hz0 : w.heap.size < w1.heap.size := (by omega); have hz1 : w.heap.size + 1 < w1.heap.size := (by omega); clear hb)
  refine (nil_tmake l lo hi _).mono ?_
  rintro e w2 ⟨rfl, hb⟩
  have y0 := hb.cell y0
  have y1 := hb.cell y1
  have x0 := hb.cell x0
  have x1 := hb.cell x1
  have hk : Keeps w w2 := hk.trans hb
  have hsz := hb.size
  have hz0 : w.heap.size < w2.heap.size := by omega
  have hz1 : w.heap.size + 1 < w2.heap.size := by omega
  clear hb
  go_wp2_with fail
  refine (nil_tview lo l _).mono ?_
  rintro e w3 ⟨rfl, hb⟩
  have e0 := hb.cell (a := ⟨w2.heap.size, 0, none⟩) (v := .int .u8 0) (by simp [go_sem])
  have e1 := hb.cell (a := ⟨w2.heap.size, 1, none⟩) (v := .int .u32 0) (by simp [go_sem])
  have hb : Keeps w2 w3 := ((Keeps.refl _).alloc _).trans hb
  have x0 := hb.cell x0
  have x1 := hb.cell x1
  have hk : Keeps w w3 := hk.trans hb
  have hsz3 := lt_of_cell e0
  dsimp only at hsz3
  have hsz := hb.size
  have hz0 : w.heap.size < w3.heap.size := by omega
  have hz1 : w.heap.size + 1 < w3.heap.size := by omega
  clear hb
  go_wp2_with (go_at_call 16; refine (nil_tright hi l _).mono ?_; rintro e w4 ⟨rfl, hb4⟩)
  all_goals (go_ret; exact ⟨rfl, by (repeat (first | with_reducible exact Keeps.refl _ | with_reducible assumption | with_reducible refine Keeps.alloc ?_ _ | with_reducible refine Keeps.drewN ?_ _ | with_reducible refine Keeps.drew ?_ | refine Keeps.setCell ?_ (by dsimp only; omega) _ | with_reducible refine Keeps.trans ?_ (by assumption)))⟩)

set_option maxRecDepth 100000 in
theorem tbddNil_lifted (os : Os) (started : os.Started) (H : Type) (enc : TypeId × Value → H) :
    ReturnsInHanded {} Try.checked os 4 .any (Rows.tbddNilSpec.pre6 enc Try.prog Try.f4 Rows.tbddNilRow.domain false) (Rows.tbddNilSpec.post enc Try.prog Try.f4 false true false false) := by
  refine returnsInHanded_of_change (C := Try.checked) own started (by kernel_rfl) Try.func4
    (ChangeSpec.witness6 (enc := enc) (C := Try.checked) false ⟨#[], #[.int .i64 0, .agg #[.int .u8 0, .int .u32 0], .agg #[.int .u8 0, .int .u32 0]], []⟩ 12 (by kernel_rfl) (by kernel_rfl) (by kernel_rfl) (by kernel_rfl)) ?_
  intro W base args ds gs before hval0 hW hcnd _
  have hval : ∀ (j : Nat) t v, Try.f4.params[j]? = some t → args[j]? = some v → Value.okWide Try.prog W .any base t v := hval0
  have hW' := hW
  obtain ⟨p, q, hA0, hV, rfl, hfz, hnd⟩ := hW
  have hA : DataW.TrodAll enc Try.prog W 0 (fun _ => true) true Try.f4.params.toList args.toList ds p := hA0
  rw [Try.params4] at hA hval
  have hAk := hA
  obtain ⟨v0, vs0, d0, ds0, p0, q0, hargs, rfl, rfl, h0, r0⟩ := trodAll_cons hA
  obtain ⟨v1, vs1, d1, ds1, p1, q1, rfl, rfl, rfl, h1, r1⟩ := trodAll_cons r0
  obtain ⟨v2, vs2, d2, ds2, p2, q2, rfl, rfl, rfl, h2, r2⟩ := trodAll_cons r1
  obtain ⟨rfl, rfl, rfl⟩ := trodAll_nil r2
  obtain rfl : args = #[v0, v1, v2] := by cases args; simp_all
  obtain ⟨rfl, rfl⟩ := trodVars_none hV
  obtain ⟨a0, rfl, rfl, rfl, w0⟩ := open_int Try.underlying3 (hval 0 3 v0 rfl rfl) h0
  obtain ⟨a1, w1, rfl⟩ := open_edge (hval 1 25 v1 rfl rfl) h1
  obtain ⟨a2, w2, rfl⟩ := open_edge (hval 2 25 v2 rfl rfl) h2
  clear hA0 hval0
  refine (tbddNil_walk a0 a1 a2 W w0 w1 w2).mono fun e W' ⟨he, bel⟩ => ?_
  subst he
  exact ⟨_, rfl, _, _, _, [], _, [], hW', trodAll_mk1 (shut_bool Try.underlying4 _), trodAll_below laidOut bel _ _ _ _ (by kernel_rfl) hAk, rfl, Below.frame bel _, fun h => by cases h⟩

theorem tbddNil_over : Rows.tbddNilRow.holds Try.pinned (OpenSpec.ofChange Rows.tbddNilSpec) :=
  OpenClaim.holds_of_wide 4 Try.f4 rfl rfl rfl rfl rfl rfl rfl ⟨rfl, rfl, rfl, rfl, rfl⟩ rfl rfl rfl rfl rfl (by kernel_rfl) Try.func4 (by kernel_rfl)
    (of_decide_eq_true (by kernel_rfl)) (by unfold Func.isWrapper; first | (rw [if_pos (by decide +kernel)]; kernel_rfl) | (rw [if_neg (by decide +kernel)]; exact ⟨rfl, rfl⟩))
    (fun os started H enc _ => tbddNil_lifted os started H enc)

theorem tbddNil_proved : Rows.TbddNilSaid := tbddNil_over

end Go.Proofs.Ytimffidpbcflaaa
