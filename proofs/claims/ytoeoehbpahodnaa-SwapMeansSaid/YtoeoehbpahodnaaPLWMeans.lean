/-
  Proved: the statement SwapMeans, for every input.
-/
import Derived.Test.YtoeoehbpahodnaaPLWMeansA
import Derived.Test.YtoeoehbpahodnaaPLWMeansB
import Derived.Test.YtoeoehbpahodnaaPLWMeansN
namespace Go.Proofs.Ytoeoehbpahodnaa
set_option linter.unusedSimpArgs false
set_option linter.unusedVariables false
set_option maxHeartbeats 600000
open Go.ChangeShapes Go.WideShapes Go.ChangeAt Go.RowKit

set_option maxRecDepth 100000 in
set_option maxHeartbeats 2000000 in
theorem swapMeans_out (n : Int) (a1 : Option Addr) (len1 cap1 : Nat) (a2 : Option Addr) (len2 cap2 : Nat) (a3 : Option Addr) (len3 cap3 : Nat) (i j : Int) (b : Bool) (w : World) (h : 30 < len1 ∨ n < 0 ∨ 5 < n ∨ 16 < len2 ∨ 4 < len3) :
    Calls Try.prog 3 #[.int .i64 n, .slice a1 len1 cap1, .slice a2 len2 cap2, .slice a3 len3 cap3, .int .i64 i, .int .i64 j, .bool b] w fun e w' => e = .returned (.bool true) ∧ Keeps w w' := by
  by_cases h1 : 30 < len1
  · go_enter Try.func3, Try.ntmps3
    go_wp2_with (first | (go_at_call 6; refine (l26_alive _).mono ?_; rintro e w1 ⟨rfl, hk1⟩) | fail)
    go_ret
    exact ⟨rfl, by (exact kp)⟩
  by_cases h2 : n < 0
  · go_enter Try.func3, Try.ntmps3
    go_wp2_with (first | (go_at_call 6; refine (l26_alive _).mono ?_; rintro e w1 ⟨rfl, hk1⟩) | fail)
    go_ret
    exact ⟨rfl, by (exact kp)⟩
  by_cases h3 : 5 < n
  · go_enter Try.func3, Try.ntmps3
    go_wp2_with (first | (go_at_call 6; refine (l26_alive _).mono ?_; rintro e w1 ⟨rfl, hk1⟩) | fail)
    go_ret
    exact ⟨rfl, by (exact kp)⟩
  by_cases h4 : 16 < len2
  · go_enter Try.func3, Try.ntmps3
    go_wp2_with (first | (go_at_call 6; refine (l26_alive _).mono ?_; rintro e w1 ⟨rfl, hk1⟩) | fail)
    go_ret
    exact ⟨rfl, by (exact kp)⟩
  have h5 : 4 < len3 := by omega
  go_enter Try.func3, Try.ntmps3
  go_wp2_with (first | (go_at_call 6; refine (l26_alive _).mono ?_; rintro e w1 ⟨rfl, hk1⟩) | fail)
  go_ret
  exact ⟨rfl, by (exact kp)⟩

theorem swapMeans_walk (n : Int) (a1 : Option Addr) (len1 cap1 : Nat) (recs : List Rec) (a2 : Option Addr) (len2 cap2 : Nat) (ps : List Int) (a3 : Option Addr) (len3 cap3 : Nat) (rs : List (Int × Edge)) (i j : Int) (b : Bool) (w : World) (_ : (Lit.int .i64 n).wf = true) (hrs : IsRecs w a1 len1 recs) (hps : IsInts w a2 len2 ps) (hro : IsRootRow w a3 len3 rs) (_ : (Lit.int .i64 i).wf = true) (_ : (Lit.int .i64 j).wf = true) :
    Calls Try.prog 3 #[.int .i64 n, .slice a1 len1 cap1, .slice a2 len2 cap2, .slice a3 len3 cap3, .int .i64 i, .int .i64 j, .bool b] w fun e w' => e = .returned (.bool true) ∧ Keeps w w' := by
  by_cases h : 30 < len1 ∨ n < 0 ∨ 5 < n ∨ 16 < len2 ∨ 4 < len3
  · exact swapMeans_out n a1 len1 cap1 a2 len2 cap2 a3 len3 cap3 i j b w h
  obtain ⟨rfl, hp, -⟩ := hps
  obtain ⟨rfl, hr⟩ := hro
  cases hpb : permB ps with
  | true =>
    cases b with
    | true => exact swapMeans_move n a1 len1 cap1 recs a2 cap2 ps a3 cap3 rs i j w (by omega) (by omega) (by omega) (by omega) (by omega) hrs hp hr hpb
    | false => exact swapMeans_swap n a1 len1 cap1 recs a2 cap2 ps a3 cap3 rs i j w (by omega) (by omega) (by omega) (by omega) (by omega) hrs hp hr hpb
  | false =>
    cases b with
    | true => exact swapMeans_move_none n a1 len1 cap1 recs a2 cap2 ps a3 cap3 rs i j w (by omega) (by omega) (by omega) (by omega) (by omega) hrs hp hr hpb
    | false => exact swapMeans_swap_none n a1 len1 cap1 recs a2 cap2 ps a3 cap3 rs i j w (by omega) (by omega) (by omega) (by omega) (by omega) hrs hp hr hpb

set_option maxRecDepth 100000 in
theorem swapMeans_lifted (os : Os) (started : os.Started) (H : Type) (enc : TypeId × Value → H) :
    ReturnsInHanded {} Try.checked os 3 .any (Rows.swapMeansSpec.pre6 enc Try.prog Try.f3 Rows.swapMeansRow.domain false) (Rows.swapMeansSpec.post enc Try.prog Try.f3 false true false false) := by
  refine returnsInHanded_of_change (C := Try.checked) own started (by kernel_rfl) Try.func3
    (ChangeSpec.witness6 (enc := enc) (C := Try.checked) false ⟨#[], #[.int .i64 0, .slice none 0 0, .slice none 0 0, .slice none 0 0, .int .i64 0, .int .i64 0, .bool false], []⟩ 12 (by kernel_rfl) (by kernel_rfl) (by kernel_rfl) (by kernel_rfl)) ?_
  intro W base args ds gs before hval0 hW hcnd _
  have hval : ∀ (j : Nat) t v, Try.f3.params[j]? = some t → args[j]? = some v → Value.okWide Try.prog W .any base t v := hval0
  have hW' := hW
  obtain ⟨p, q, hA0, hV, rfl, hfz, hnd⟩ := hW
  have hA : DataW.TrodAll enc Try.prog W 0 (fun _ => true) true Try.f3.params.toList args.toList ds p := hA0
  rw [Try.params3] at hA hval
  have hAk := hA
  obtain ⟨v0, vs0, d0, ds0, p0, q0, hargs, rfl, rfl, h0, r0⟩ := trodAll_cons hA
  obtain ⟨v1, vs1, d1, ds1, p1, q1, rfl, rfl, rfl, h1, r1⟩ := trodAll_cons r0
  obtain ⟨v2, vs2, d2, ds2, p2, q2, rfl, rfl, rfl, h2, r2⟩ := trodAll_cons r1
  obtain ⟨v3, vs3, d3, ds3, p3, q3, rfl, rfl, rfl, h3, r3⟩ := trodAll_cons r2
  obtain ⟨v4, vs4, d4, ds4, p4, q4, rfl, rfl, rfl, h4, r4⟩ := trodAll_cons r3
  obtain ⟨v5, vs5, d5, ds5, p5, q5, rfl, rfl, rfl, h5, r5⟩ := trodAll_cons r4
  obtain ⟨v6, vs6, d6, ds6, p6, q6, rfl, rfl, rfl, h6, r6⟩ := trodAll_cons r5
  obtain ⟨rfl, rfl, rfl⟩ := trodAll_nil r6
  obtain rfl : args = #[v0, v1, v2, v3, v4, v5, v6] := by cases args; simp_all
  obtain ⟨rfl, rfl⟩ := trodVars_none hV
  obtain ⟨a0, rfl, rfl, rfl, w0⟩ := open_int Try.underlying3 (hval 0 3 v0 rfl rfl) h0
  obtain ⟨a1, len1, cap1, rfl⟩ := okWide_slice Try.underlying22 (hval 1 22 v1 rfl rfl)
  obtain ⟨rs1, w1⟩ := open_recs h1
  obtain ⟨a2, len2, cap2, rfl⟩ := okWide_slice Try.underlying23 (hval 2 23 v2 rfl rfl)
  obtain ⟨rs2, w2⟩ := open_intRow h2
  obtain ⟨a3, len3, cap3, rfl⟩ := okWide_slice Try.underlying24 (hval 3 24 v3 rfl rfl)
  obtain ⟨rs3, w3⟩ := open_rootRow h3
  obtain ⟨a4, rfl, rfl, rfl, w4⟩ := open_int Try.underlying3 (hval 4 3 v4 rfl rfl) h4
  obtain ⟨a5, rfl, rfl, rfl, w5⟩ := open_int Try.underlying3 (hval 5 3 v5 rfl rfl) h5
  obtain ⟨a6, rfl, rfl, rfl⟩ := open_bool Try.underlying4 (hval 6 4 v6 rfl rfl) h6
  clear hA0 hval0
  refine (swapMeans_walk a0 a1 len1 cap1 rs1 a2 len2 cap2 rs2 a3 len3 cap3 rs3 a4 a5 a6 W w0 w1 w2 w3 w4 w5).mono fun e W' ⟨he, bel⟩ => ?_
  subst he
  exact ⟨_, rfl, _, _, _, [], _, [], hW', trodAll_mk1 (shut_bool Try.underlying4 _), trodAll_below laidOut bel _ _ _ _ (by kernel_rfl) hAk, rfl, Below.frame bel _, fun h => by cases h⟩

theorem swapMeans_over : Rows.swapMeansRow.holds Try.pinned (OpenSpec.ofChange Rows.swapMeansSpec) :=
  OpenClaim.holds_of_wide 3 Try.f3 rfl rfl rfl rfl rfl rfl rfl ⟨rfl, rfl, rfl, rfl, rfl⟩ rfl rfl rfl rfl rfl (by kernel_rfl) Try.func3 (by kernel_rfl)
    (of_decide_eq_true (by kernel_rfl)) (by unfold Func.isWrapper; first | (rw [if_pos (by decide +kernel)]; kernel_rfl) | (rw [if_neg (by decide +kernel)]; exact ⟨rfl, rfl⟩))
    (fun os started H enc _ => swapMeans_lifted os started H enc)

theorem swapMeans_proved : Rows.SwapMeansSaid := swapMeans_over

end Go.Proofs.Ytoeoehbpahodnaa
