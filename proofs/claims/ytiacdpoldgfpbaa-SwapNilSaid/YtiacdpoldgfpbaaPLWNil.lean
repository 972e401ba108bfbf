/-
  Proved: the statement SwapNil, for every input.
-/
import Derived.Test.YtiacdpoldgfpbaaPSwapL
import Derived.Test.YtiacdpoldgfpbaaPSwapN
import Derived.Test.YtiacdpoldgfpbaaRows
namespace Go.Proofs.Ytiacdpoldgfpbaa
set_option linter.unusedSimpArgs false
set_option linter.unusedVariables false
set_option maxHeartbeats 600000
open Go.ChangeShapes Go.WideShapes Go.ChangeAt Go.RowKit

def NilOne (sp op : Option Addr) : Prop := (sp = none ∧ ∃ b, op = some ⟨b, 0, none⟩) ∨ (op = none ∧ ∃ b, sp = some ⟨b, 0, none⟩)

set_option maxRecDepth 100000 in
theorem fit_nil {sp op : Option Addr} (h : NilOne sp op) (w : World) : Calls Try.prog 67 #[.pointer sp, .pointer op] w fun e w' => e = .returned (.int .u8 2) ∧ w = w' := by
  rcases h with ⟨rfl, b, rfl⟩ | ⟨rfl, b, rfl⟩
  · go_enter Try.func67, Try.ntmps67
    go_wp2
    go_ret
    exact ⟨rfl, rfl⟩
  · go_enter Try.func67, Try.ntmps67
    go_wp2
    go_ret
    exact ⟨rfl, rfl⟩

set_option maxRecDepth 100000 in
theorem swap_nil {sp op : Option Addr} (h : NilOne sp op) (lv : Int) (v : Value) (w : World) : Calls Try.prog 26 #[.pointer sp, .pointer op, .int .i64 lv, v] w fun e w' => e = .returned (.tuple #[.slice none 0 0, .int .u8 2]) ∧ Keeps w w' := by
  have HF := Lib.hid (fun (W : World) => fit_nil h W)
  clear h
  go_enter Try.func26, Try.ntmps26
  go_wp2_with (first | (go_at_call 67; refine (HF.out _).mono ?_; rintro e w1 ⟨rfl, rfl⟩) | fail)
  go_ret2
  exact ⟨rfl, by (exact kp)⟩

set_option maxRecDepth 100000 in
theorem move_nil {sp op : Option Addr} (h : NilOne sp op) (lv lt : Int) (v : Value) (w : World) : Calls Try.prog 24 #[.pointer sp, .pointer op, .int .i64 lv, .int .i64 lt, v] w fun e w' => e = .returned (.tuple #[.slice none 0 0, .int .u8 2]) ∧ Keeps w w' := by
  have HF := Lib.hid (fun (W : World) => fit_nil h W)
  clear h
  go_enter Try.func24, Try.ntmps24
  go_wp2_with (first | (go_at_call 67; refine (HF.out _).mono ?_; rintro e w1 ⟨rfl, rfl⟩) | fail)
  go_ret2
  exact ⟨rfl, by (exact kp)⟩

set_option maxRecDepth 100000 in
theorem permute_nil {sp op : Option Addr} (h : NilOne sp op) (p v : Value) (w : World) : Calls Try.prog 45 #[.pointer sp, .pointer op, p, v] w fun e w' => e = .returned (.tuple #[.slice none 0 0, .int .u8 2]) ∧ Keeps w w' := by
  have HF := Lib.hid (fun (W : World) => fit_nil h W)
  clear h
  go_enter Try.func45, Try.ntmps45
  go_wp2_with (first | (go_at_call 67; refine (HF.out _).mono ?_; rintro e w1 ⟨rfl, rfl⟩) | fail)
  go_ret2
  exact ⟨rfl, by (exact kp)⟩

set_option maxRecDepth 100000 in
theorem none26_calls {sp op : Option Addr} (h : NilOne sp op) (lv lt : Int) (p v : Value) (w : World) : Calls Try.prog 34 #[.pointer sp, .pointer op, .int .i64 lv, .int .i64 lt, p, v] w fun e w' => e = .returned (.bool true) ∧ Keeps w w' := by
  have HS := Lib.hid (fun (W : World) => swap_nil h lv v W)
  have HM := Lib.hid (fun (W : World) => move_nil h lv lt v W)
  have HP := Lib.hid (fun (W : World) => permute_nil h p v W)
  clear h
  go_enter Try.func34, Try.ntmps34
  go_wp2_with (first | (go_at_call 26; refine (HS.out _).mono ?_; rintro e w1 ⟨rfl, hk1⟩) | (go_at_call 24; refine (HM.out _).mono ?_; rintro e w2 ⟨rfl, hk2⟩) | (go_at_call 45; refine (HP.out _).mono ?_; rintro e w3 ⟨rfl, hk3⟩) | fail)
  go_ret
  exact ⟨rfl, by (exact kp)⟩

set_option maxRecDepth 100000 in
set_option maxHeartbeats 2000000 in
theorem swapNil_walk (lv lt : Int) (a2 : Option Addr) (len2 cap2 : Nat) (ps : List Int) (a3 : Option Addr) (len3 cap3 : Nat) (rs : List (Int × Edge)) (w : World) (_ : (Lit.int .i64 lv).wf = true) (_ : (Lit.int .i64 lt).wf = true) (_ : IsInts w a2 len2 ps) (hr : IsRootRow w a3 len3 rs) :
    Calls Try.prog 6 #[.int .i64 lv, .int .i64 lt, .slice a2 len2 cap2, .slice a3 len3 cap3] w fun e w' => e = .returned (.bool true) ∧ Keeps w w' := by
  have hp : permB [0, 1] = true := by decide
  have HST := Lib.hid (fun (W : World) (a : Option Addr) (hI : IntsAt W a [0, 1]) => stage_calls 5 a 2 [0, 1] W hI hp (by decide) (by decide))
  have HR := Lib.hid hr
  clear hp hr
  by_cases h9 : 9 < len3
  · go_enter Try.func6, Try.ntmps6
    go_wp2_with (first | (go_at_call 21; refine (l26_alive _).mono ?_; rintro e w1 ⟨rfl, hk1⟩) | fail)
    have hI : IntsAt (w1.alloc (.cells #[.int .i64 0, .int .i64 1] 3)) (some ⟨w1.heap.size, 0, none⟩) [0, 1] := fun i x hx => by
      rcases i with _ | _ | i
      · simp at hx; subst hx; exact ⟨_, 0, rfl, by simp [go_sem]⟩
      · simp at hx; subst hx; exact ⟨_, 0, rfl, by simp [go_sem]⟩
      · simp at hx
    refine (HST.out _ _ hI).mono ?_
    rintro e w2 ⟨sb, ob, F, Fo, rfl, hk2, _, _, _, _, _⟩
    go_wp2_with fail
    go_ret
    exact ⟨rfl, by (exact kp)⟩
  · have hRT := fun (W : World) (hW : Keeps w W) => roots_calls a3 cap3 rs W (HR.out.2.keeps hW) (by have := HR.out.1; omega)
    rw [HR.out.1] at hRT
    have HRT := Lib.hid hRT
    clear hRT
    go_enter Try.func6, Try.ntmps6
    go_wp2_with (first | (go_at_call 21; refine (l26_alive _).mono ?_; rintro e w1 ⟨rfl, hk1⟩) | fail)
    have hI : IntsAt (w1.alloc (.cells #[.int .i64 0, .int .i64 1] 3)) (some ⟨w1.heap.size, 0, none⟩) [0, 1] := fun i x hx => by
      rcases i with _ | _ | i
      · simp at hx; subst hx; exact ⟨_, 0, rfl, by simp [go_sem]⟩
      · simp at hx; subst hx; exact ⟨_, 0, rfl, by simp [go_sem]⟩
      · simp at hx
    refine (HST.out _ _ hI).mono ?_
    rintro e w2 ⟨sb, ob, F, Fo, rfl, hk2, _, _, _, _, _⟩
    go_wp2_with fail
    refine (HRT.out _ (by (exact kp))).mono ?_
    rintro e w3 ⟨v5, v6, v7, rfl, _, _, _, hk3⟩
    go_wp2_with fail
    refine (none26_calls (.inl ⟨rfl, ob, rfl⟩) lv lt _ _ _).mono ?_
    rintro e w4 ⟨rfl, hk4⟩
    go_wp2_with fail
    refine (none26_calls (.inr ⟨rfl, sb, rfl⟩) lv lt _ _ _).mono ?_
    rintro e w5 ⟨rfl, hk5⟩
    go_wp2_with fail
    go_ret
    exact ⟨rfl, by (exact kp)⟩

set_option maxRecDepth 100000 in
theorem swapNil_lifted (os : Os) (started : os.Started) (H : Type) (enc : TypeId × Value → H) :
    ReturnsInHanded {} Try.checked os 6 .any (Rows.swapNilSpec.pre6 enc Try.prog Try.f6 Rows.swapNilRow.domain false) (Rows.swapNilSpec.post enc Try.prog Try.f6 false true false false) := by
  refine returnsInHanded_of_change (C := Try.checked) own started (by kernel_rfl) Try.func6
    (ChangeSpec.witness6 (enc := enc) (C := Try.checked) false ⟨#[], #[.int .i64 0, .int .i64 0, .slice none 0 0, .slice none 0 0], []⟩ 12 (by kernel_rfl) (by kernel_rfl) (by kernel_rfl) (by kernel_rfl)) ?_
  intro W base args ds gs before hval0 hW hcnd _
  have hval : ∀ (j : Nat) t v, Try.f6.params[j]? = some t → args[j]? = some v → Value.okWide Try.prog W .any base t v := hval0
  have hW' := hW
  obtain ⟨p, q, hA0, hV, rfl, hfz, hnd⟩ := hW
  have hA : DataW.TrodAll enc Try.prog W 0 (fun _ => true) true Try.f6.params.toList args.toList ds p := hA0
  rw [Try.params6] at hA hval
  have hAk := hA
  obtain ⟨v0, vs0, d0, ds0, p0, q0, hargs, rfl, rfl, h0, r0⟩ := trodAll_cons hA
  obtain ⟨v1, vs1, d1, ds1, p1, q1, rfl, rfl, rfl, h1, r1⟩ := trodAll_cons r0
  obtain ⟨v2, vs2, d2, ds2, p2, q2, rfl, rfl, rfl, h2, r2⟩ := trodAll_cons r1
  obtain ⟨v3, vs3, d3, ds3, p3, q3, rfl, rfl, rfl, h3, r3⟩ := trodAll_cons r2
  obtain ⟨rfl, rfl, rfl⟩ := trodAll_nil r3
  obtain rfl : args = #[v0, v1, v2, v3] := by cases args; simp_all
  obtain ⟨rfl, rfl⟩ := trodVars_none hV
  obtain ⟨a0, rfl, rfl, rfl, w0⟩ := open_int Try.underlying3 (hval 0 3 v0 rfl rfl) h0
  obtain ⟨a1, rfl, rfl, rfl, w1⟩ := open_int Try.underlying3 (hval 1 3 v1 rfl rfl) h1
  obtain ⟨a2, len2, cap2, rfl⟩ := okWide_slice Try.underlying49 (hval 2 49 v2 rfl rfl)
  obtain ⟨rs2, w2⟩ := open_intRow h2
  obtain ⟨a3, len3, cap3, rfl⟩ := okWide_slice Try.underlying50 (hval 3 50 v3 rfl rfl)
  obtain ⟨rs3, w3⟩ := open_rootRow h3
  clear hA0 hval0
  refine (swapNil_walk a0 a1 a2 len2 cap2 rs2 a3 len3 cap3 rs3 W w0 w1 w2 w3).mono fun e W' ⟨he, bel⟩ => ?_
  subst he
  exact ⟨_, rfl, _, _, _, [], _, [], hW', trodAll_mk1 (shut_bool Try.underlying4 _), trodAll_below laidOut bel _ _ _ _ (by kernel_rfl) hAk, rfl, Below.frame bel _, fun h => by cases h⟩

theorem swapNil_over : Rows.swapNilRow.holds Try.pinned (OpenSpec.ofChange Rows.swapNilSpec) :=
  OpenClaim.holds_of_wide 6 Try.f6 rfl rfl rfl rfl rfl rfl rfl ⟨rfl, rfl, rfl, rfl, rfl⟩ rfl rfl rfl rfl rfl (by kernel_rfl) Try.func6 (by kernel_rfl)
    (of_decide_eq_true (by kernel_rfl)) (by unfold Func.isWrapper; first | (rw [if_pos (by decide +kernel)]; kernel_rfl) | (rw [if_neg (by decide +kernel)]; exact ⟨rfl, rfl⟩))
    (fun os started H enc _ => swapNil_lifted os started H enc)

theorem swapNil_proved : Rows.SwapNilSaid := swapNil_over

end Go.Proofs.Ytiacdpoldgfpbaa
