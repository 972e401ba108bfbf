/-
  Proved: the statement SwapPermutes, for every input.
-/
import Derived.Test.YtoeoehbpahodnaaPLWPermAxA
namespace Go.Proofs.Ytoeoehbpahodnaa
set_option linter.unusedSimpArgs false
set_option linter.unusedVariables false
set_option maxHeartbeats 600000
open Go.ChangeShapes Go.WideShapes Go.ChangeAt Go.RowKit

set_option maxRecDepth 100000 in
set_option maxHeartbeats 2000000 in
theorem swapPermutes_out (n : Int) (a1 : Option Addr) (len1 cap1 : Nat) (a2 : Option Addr) (len2 cap2 : Nat) (a3 : Option Addr) (len3 cap3 : Nat) (a4 : Option Addr) (len4 cap4 : Nat) (w : World) (h : 30 < len1 ∨ n < 0 ∨ 5 < n ∨ 16 < len2 ∨ 16 < len3 ∨ 3 < len4) :
    Calls Try.prog 5 #[.int .i64 n, .slice a1 len1 cap1, .slice a2 len2 cap2, .slice a3 len3 cap3, .slice a4 len4 cap4] w fun e w' => e = .returned (.bool true) ∧ Keeps w w' := by
  by_cases h1 : 30 < len1
  · go_enter Try.func5, Try.ntmps5
    go_wp2_with (first | (go_at_call 6; refine (l26_alive _).mono ?_; rintro e w1 ⟨rfl, hk1⟩) | fail)
    go_ret
    exact ⟨rfl, by (exact kp)⟩
  by_cases h2 : n < 0
  · go_enter Try.func5, Try.ntmps5
    go_wp2_with (first | (go_at_call 6; refine (l26_alive _).mono ?_; rintro e w1 ⟨rfl, hk1⟩) | fail)
    go_ret
    exact ⟨rfl, by (exact kp)⟩
  by_cases h3 : 5 < n
  · go_enter Try.func5, Try.ntmps5
    go_wp2_with (first | (go_at_call 6; refine (l26_alive _).mono ?_; rintro e w1 ⟨rfl, hk1⟩) | fail)
    go_ret
    exact ⟨rfl, by (exact kp)⟩
  by_cases h4 : 16 < len2
  · go_enter Try.func5, Try.ntmps5
    go_wp2_with (first | (go_at_call 6; refine (l26_alive _).mono ?_; rintro e w1 ⟨rfl, hk1⟩) | fail)
    go_ret
    exact ⟨rfl, by (exact kp)⟩
  by_cases h5 : 16 < len3
  · go_enter Try.func5, Try.ntmps5
    go_wp2_with (first | (go_at_call 6; refine (l26_alive _).mono ?_; rintro e w1 ⟨rfl, hk1⟩) | fail)
    go_ret
    exact ⟨rfl, by (exact kp)⟩
  have h9 : 3 < len4 := by omega
  go_enter Try.func5, Try.ntmps5
  go_wp2_with (first | (go_at_call 6; refine (l26_alive _).mono ?_; rintro e w1 ⟨rfl, hk1⟩) | fail)
  go_ret
  exact ⟨rfl, by (exact kp)⟩

theorem swapPermutes_walk (n : Int) (a1 : Option Addr) (len1 cap1 : Nat) (recs : List Rec) (a2 : Option Addr) (len2 cap2 : Nat) (ps : List Int) (a3 : Option Addr) (len3 cap3 : Nat) (qs : List Int) (a4 : Option Addr) (len4 cap4 : Nat) (rs : List (Int × Edge)) (w : World) (_ : (Lit.int .i64 n).wf = true) (hrs : IsRecs w a1 len1 recs) (hps : IsInts w a2 len2 ps) (hqs : IsInts w a3 len3 qs) (hro : IsRootRow w a4 len4 rs) :
    Calls Try.prog 5 #[.int .i64 n, .slice a1 len1 cap1, .slice a2 len2 cap2, .slice a3 len3 cap3, .slice a4 len4 cap4] w fun e w' => e = .returned (.bool true) ∧ Keeps w w' := by
  by_cases h : 30 < len1 ∨ n < 0 ∨ 5 < n ∨ 16 < len2 ∨ 16 < len3 ∨ 3 < len4
  · exact swapPermutes_out n a1 len1 cap1 a2 len2 cap2 a3 len3 cap3 a4 len4 cap4 w h
  obtain ⟨rfl, hp, -⟩ := hps
  obtain ⟨rfl, hq, -⟩ := hqs
  obtain ⟨rfl, hr⟩ := hro
  cases hpb : permB ps with
  | true => exact swapPermutes_right n a1 len1 cap1 recs a2 cap2 ps a3 cap3 qs a4 cap4 rs w (by omega) (by omega) (by omega) (by omega) (by omega) (by omega) hrs hp hq hr hpb
  | false => exact swapPermutes_none n a1 len1 cap1 recs a2 cap2 ps a3 cap3 qs a4 cap4 rs w (by omega) (by omega) (by omega) (by omega) (by omega) (by omega) hrs hp hq hr hpb

set_option maxRecDepth 100000 in
theorem swapPermutes_lifted (os : Os) (started : os.Started) (H : Type) (enc : TypeId × Value → H) :
    ReturnsInHanded {} Try.checked os 5 .any (Rows.swapPermutesSpec.pre6 enc Try.prog Try.f5 Rows.swapPermutesRow.domain false) (Rows.swapPermutesSpec.post enc Try.prog Try.f5 false true false false) := by
  refine returnsInHanded_of_change (C := Try.checked) own started (by kernel_rfl) Try.func5
    (ChangeSpec.witness6 (enc := enc) (C := Try.checked) false ⟨#[], #[.int .i64 0, .slice none 0 0, .slice none 0 0, .slice none 0 0, .slice none 0 0], []⟩ 12 (by kernel_rfl) (by kernel_rfl) (by kernel_rfl) (by kernel_rfl)) ?_
  intro W base args ds gs before hval0 hW hcnd _
  have hval : ∀ (j : Nat) t v, Try.f5.params[j]? = some t → args[j]? = some v → Value.okWide Try.prog W .any base t v := hval0
  have hW' := hW
  obtain ⟨p, q, hA0, hV, rfl, hfz, hnd⟩ := hW
  have hA : DataW.TrodAll enc Try.prog W 0 (fun _ => true) true Try.f5.params.toList args.toList ds p := hA0
  rw [Try.params5] at hA hval
  have hAk := hA
  obtain ⟨v0, vs0, d0, ds0, p0, q0, hargs, rfl, rfl, h0, r0⟩ := trodAll_cons hA
  obtain ⟨v1, vs1, d1, ds1, p1, q1, rfl, rfl, rfl, h1, r1⟩ := trodAll_cons r0
  obtain ⟨v2, vs2, d2, ds2, p2, q2, rfl, rfl, rfl, h2, r2⟩ := trodAll_cons r1
  obtain ⟨v3, vs3, d3, ds3, p3, q3, rfl, rfl, rfl, h3, r3⟩ := trodAll_cons r2
  obtain ⟨v4, vs4, d4, ds4, p4, q4, rfl, rfl, rfl, h4, r4⟩ := trodAll_cons r3
  obtain ⟨rfl, rfl, rfl⟩ := trodAll_nil r4
  obtain rfl : args = #[v0, v1, v2, v3, v4] := by cases args; simp_all
  obtain ⟨rfl, rfl⟩ := trodVars_none hV
  obtain ⟨a0, rfl, rfl, rfl, w0⟩ := open_int Try.underlying3 (hval 0 3 v0 rfl rfl) h0
  obtain ⟨a1, len1, cap1, rfl⟩ := okWide_slice Try.underlying22 (hval 1 22 v1 rfl rfl)
  obtain ⟨rs1, w1⟩ := open_recs h1
  obtain ⟨a2, len2, cap2, rfl⟩ := okWide_slice Try.underlying23 (hval 2 23 v2 rfl rfl)
  obtain ⟨rs2, w2⟩ := open_intRow h2
  obtain ⟨a3, len3, cap3, rfl⟩ := okWide_slice Try.underlying23 (hval 3 23 v3 rfl rfl)
  obtain ⟨rs3, w3⟩ := open_intRow h3
  obtain ⟨a4, len4, cap4, rfl⟩ := okWide_slice Try.underlying24 (hval 4 24 v4 rfl rfl)
  obtain ⟨rs4, w4⟩ := open_rootRow h4
  clear hA0 hval0
  refine (swapPermutes_walk a0 a1 len1 cap1 rs1 a2 len2 cap2 rs2 a3 len3 cap3 rs3 a4 len4 cap4 rs4 W w0 w1 w2 w3 w4).mono fun e W' ⟨he, bel⟩ => ?_
  subst he
  exact ⟨_, rfl, _, _, _, [], _, [], hW', trodAll_mk1 (shut_bool Try.underlying4 _), trodAll_below laidOut bel _ _ _ _ (by kernel_rfl) hAk, rfl, Below.frame bel _, fun h => by cases h⟩

theorem swapPermutes_over : Rows.swapPermutesRow.holds Try.pinned (OpenSpec.ofChange Rows.swapPermutesSpec) :=
  OpenClaim.holds_of_wide 5 Try.f5 rfl rfl rfl rfl rfl rfl rfl ⟨rfl, rfl, rfl, rfl, rfl⟩ rfl rfl rfl rfl rfl (by kernel_rfl) Try.func5 (by kernel_rfl)
    (of_decide_eq_true (by kernel_rfl)) (by unfold Func.isWrapper; first | (rw [if_pos (by decide +kernel)]; kernel_rfl) | (rw [if_neg (by decide +kernel)]; exact ⟨rfl, rfl⟩))
    (fun os started H enc _ => swapPermutes_lifted os started H enc)

theorem swapPermutes_proved : Rows.SwapPermutesSaid := swapPermutes_over

end Go.Proofs.Ytoeoehbpahodnaa
