/-
  Proved: the statement TbddMakes, for every input.
-/
import Derived.Test.YtedlchpdbpffmaaRows
import Derived.Test.YtedlchpdbpffmaaTLaw
import Derived.Test.YtedlchpdbpffmaaOpens
namespace Go.Proofs.Ytedlchpdbpffmaa
set_option linter.unusedSimpArgs false
set_option linter.unusedVariables false
set_option maxHeartbeats 600000
open Go.ChangeShapes Go.WideShapes Go.ChangeAt Go.RowKit

theorem tbddMakes_walk (n room : Int) (a : Option Addr) (len cap : Nat) (rs : List Rec) (l : Int) (lo hi : Edge) (w : World) (_ : (Lit.int .i64 n).wf = true) (_ : (Lit.int .i64 room).wf = true) (hrs : IsRecs w a len rs) (_ : (Lit.int .i64 l).wf = true) (hlo : lo.ok) (hhi : hi.ok) :
    Calls Try.prog 4 #[.int .i64 n, .int .i64 room, .slice a len cap, .int .i64 l, .agg #[.int .u8 lo.tag, .int .u32 lo.to], .agg #[.int .u8 hi.tag, .int .u32 hi.to]] w fun e w' => e = .returned (.bool true) ∧ Keeps w w' := by
  by_cases h : 40 < len ∨ n < 0 ∨ 16 < n ∨ room < 0 ∨ 100 < room
  · exact tmakes_out n room l a len cap lo hi w h
  · exact tmakes_in n room l a len cap rs lo hi w hlo hhi (by omega) (by omega) (by omega) (by omega) (by omega) hrs

set_option maxRecDepth 100000 in
theorem tbddMakes_lifted (os : Os) (started : os.Started) (H : Type) (enc : TypeId × Value → H) :
    ReturnsInHanded {} Try.checked os 4 .any (Rows.tbddMakesSpec.pre6 enc Try.prog Try.f4 Rows.tbddMakesRow.domain false) (Rows.tbddMakesSpec.post enc Try.prog Try.f4 false true false false) := by
  refine returnsInHanded_of_change (C := Try.checked) own started (by kernel_rfl) Try.func4
    (ChangeSpec.witness6 (enc := enc) (C := Try.checked) false ⟨#[], #[.int .i64 0, .int .i64 0, .slice none 0 0, .int .i64 0, .agg #[.int .u8 0, .int .u32 0], .agg #[.int .u8 0, .int .u32 0]], []⟩ 12 (by kernel_rfl) (by kernel_rfl) (by kernel_rfl) (by kernel_rfl)) ?_
  intro W base args ds gs before hval0 hW hcnd _
  have hval : ∀ (j : Nat) t v, Try.f4.params[j]? = some t → args[j]? = some v → Value.okWide Try.prog W .any base t v := hval0
  have hW' := hW
  obtain ⟨p, q, hA0, hV, rfl, hfz, hnd⟩ := hW
  have hA : DataW.TrodAll enc Try.prog W 0 (fun _ => true) true Try.f4.params.toList args.toList ds p := hA0
  rw [Try.params4] at hA hval
  have hAk := hA
  obtain ⟨v0, vs0, d0, ds0, p0, q0, hargs, rfl, rfl, h0, r0⟩ := trodAll_cons hA
  obtain ⟨v1, vs1, d1, ds1, p1, q1, rfl, rfl, rfl, h1, r1⟩ := trodAll_cons r0
  obtain ⟨v2, vs2, d2, ds2, p2, q2, rfl, rfl, rfl, h2, r2⟩ := trodAll_cons r1
  obtain ⟨v3, vs3, d3, ds3, p3, q3, rfl, rfl, rfl, h3, r3⟩ := trodAll_cons r2
  obtain ⟨v4, vs4, d4, ds4, p4, q4, rfl, rfl, rfl, h4, r4⟩ := trodAll_cons r3
  obtain ⟨v5, vs5, d5, ds5, p5, q5, rfl, rfl, rfl, h5, r5⟩ := trodAll_cons r4
  obtain ⟨rfl, rfl, rfl⟩ := trodAll_nil r5
  obtain rfl : args = #[v0, v1, v2, v3, v4, v5] := by cases args; simp_all
  obtain ⟨rfl, rfl⟩ := trodVars_none hV
  obtain ⟨a0, rfl, rfl, rfl, w0⟩ := open_int Try.underlying3 (hval 0 3 v0 rfl rfl) h0
  obtain ⟨a1, rfl, rfl, rfl, w1⟩ := open_int Try.underlying3 (hval 1 3 v1 rfl rfl) h1
  obtain ⟨a2, len2, cap2, rfl⟩ := okWide_slice Try.underlying41 (hval 2 41 v2 rfl rfl)
  obtain ⟨rs2, w2⟩ := open_recs h2
  obtain ⟨a3, rfl, rfl, rfl, w3⟩ := open_int Try.underlying3 (hval 3 3 v3 rfl rfl) h3
  obtain ⟨a4, w4, rfl⟩ := open_edge (hval 4 35 v4 rfl rfl) h4
  obtain ⟨a5, w5, rfl⟩ := open_edge (hval 5 35 v5 rfl rfl) h5
  clear hA0 hval0
  refine (tbddMakes_walk a0 a1 a2 len2 cap2 rs2 a3 a4 a5 W w0 w1 w2 w3 w4 w5).mono fun e W' ⟨he, bel⟩ => ?_
  subst he
  exact ⟨_, rfl, _, _, _, [], _, [], hW', trodAll_mk1 (shut_bool Try.underlying4 _), trodAll_below laidOut bel _ _ _ _ (by kernel_rfl) hAk, rfl, Below.frame bel _, fun h => by cases h⟩

theorem tbddMakes_over : Rows.tbddMakesRow.holds Try.pinned (OpenSpec.ofChange Rows.tbddMakesSpec) :=
  OpenClaim.holds_of_wide 4 Try.f4 rfl rfl rfl rfl rfl rfl rfl ⟨rfl, rfl, rfl, rfl, rfl⟩ rfl rfl rfl rfl rfl (by kernel_rfl) Try.func4 (by kernel_rfl)
    (of_decide_eq_true (by kernel_rfl)) (by unfold Func.isWrapper; first | (rw [if_pos (by decide +kernel)]; kernel_rfl) | (rw [if_neg (by decide +kernel)]; exact ⟨rfl, rfl⟩))
    (fun os started H enc _ => tbddMakes_lifted os started H enc)

theorem tbddMakes_proved : Rows.TbddMakesSaid := tbddMakes_over

end Go.Proofs.Ytedlchpdbpffmaa
