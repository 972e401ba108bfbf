/-
  Proved: the statement CanonHolds, for every input.
-/
import Derived.Test.YtnkehgohamjpaaaPBuiltA
import Derived.Test.YtnkehgohamjpaaaPHoldsI
import Derived.Test.YtnkehgohamjpaaaPKAlive
import Derived.Test.YtnkehgohamjpaaaPLawBase
import Derived.Test.YtnkehgohamjpaaaPReachB
import Derived.Test.YtnkehgohamjpaaaPRightA
import Derived.Test.YtnkehgohamjpaaaRows
namespace Go.Proofs.Ytnkehgohamjpaaa
set_option linter.unusedSimpArgs false
set_option linter.unusedVariables false
set_option maxHeartbeats 600000
open Go.ChangeShapes Go.WideShapes Go.ChangeAt Go.RowKit


set_option maxRecDepth 100000 in
theorem canonHolds_out (n f l x : Int) (a : Option Addr) (len cap : Nat) (v : Edge) (w : World) (h : 40 < len ∨ n < 0 ∨ 16 < n) :
    Calls Try.prog 12 #[.int .i64 n, .slice a len cap, .int .u8 f, .agg #[.int .u8 v.tag, .int .u32 v.to], .int .i64 l, .int .u16 x] w fun e w' => e = .returned (.bool true) ∧ Keeps w w' := by
  have H := Lib.hid h
  clear h
  go_enter Try.func12, Try.ntmps12
  go_wp2_with (first | (go_at_call 55; refine (k_alive _).mono ?_; rintro e w1 ⟨rfl, hb⟩; have y0 := hb.cell (a := ⟨w.heap.size, 0, none⟩) (v := .int .u8 v.tag) (by simp [go_sem]); have y1 := hb.cell (a := ⟨w.heap.size, 1, none⟩) (v := .int .u32 v.to) (by simp [go_sem]); have hk : Keeps w w1 := (by (repeat (first | with_reducible exact Keeps.refl _ | with_reducible assumption | with_reducible refine Keeps.alloc ?_ _ | with_reducible refine Keeps.drewN ?_ _ | with_reducible refine Keeps.drew ?_ | refine Keeps.setCell ?_ (by dsimp only; omega) _ | with_reducible refine Keeps.trans ?_ (by assumption)))); have hsz := hb.size; simp only [World.size_alloc] at hsz) | fail)
  all_goals first | (go_ret; exact ⟨rfl, by (repeat (first | with_reducible exact Keeps.refl _ | with_reducible assumption | with_reducible refine Keeps.alloc ?_ _ | with_reducible refine Keeps.drewN ?_ _ | with_reducible refine Keeps.drew ?_ | refine Keeps.setCell ?_ (by dsimp only; omega) _ | with_reducible refine Keeps.trans ?_ (by assumption)))⟩) | (exfalso; have := H.out; omega)

set_option maxRecDepth 100000 in
set_option maxHeartbeats 1000000 in
theorem canonHolds_in (n f l x : Int) (a : Option Addr) (len cap : Nat) (rs : List Rec) (v : Edge) (w : World) (hv : v.ok) (h1 : len ≤ 40) (h2 : 0 ≤ n) (h3 : n ≤ 16) (hx0 : 0 ≤ x) (hx1 : x ≤ 65535) (hrs : IsRecs w a len rs) :
    Calls Try.prog 12 #[.int .i64 n, .slice a len cap, .int .u8 f, .agg #[.int .u8 v.tag, .int .u32 v.to], .int .i64 l, .int .u16 x] w fun e w' => e = .returned (.bool true) ∧ Keeps w w' := by
  have HR := Lib.hid hrs
  have HV := Lib.hid hv
  clear hrs hv
  go_enter Try.func12, Try.ntmps12
  go_wp2_with (first | (go_at_call 55; refine (k_alive _).mono ?_; rintro e w1 ⟨rfl, hb⟩; have y0 := hb.cell (a := ⟨w.heap.size, 0, none⟩) (v := .int .u8 v.tag) (by simp [go_sem]); have y1 := hb.cell (a := ⟨w.heap.size, 1, none⟩) (v := .int .u32 v.to) (by simp [go_sem]); have hk : Keeps w w1 := (by (repeat (first | with_reducible exact Keeps.refl _ | with_reducible assumption | with_reducible refine Keeps.alloc ?_ _ | with_reducible refine Keeps.drewN ?_ _ | with_reducible refine Keeps.drew ?_ | refine Keeps.setCell ?_ (by dsimp only; omega) _ | with_reducible refine Keeps.trans ?_ (by assumption)))); have hsz := hb.size; simp only [World.size_alloc] at hsz) | fail)
  refine (built' n 100 a len cap rs _ h2 h3 (by omega) (by omega) (by omega) (HR.out.keeps hk)).mono ?_
  rintro e w2 ⟨sb, mb, M, L, rfl, hB, hMn, hMr, hMl⟩
  subst hMn
  have HBB := Lib.hid hB
  obtain ⟨⟨F, G, q1, q2, q3, q4, q5⟩, q6⟩ := hB
  have v0 := q6.cell y0
  have v1 := q6.cell y1
  have hkw : Keeps w w2 := hk.trans q6
  have hwz : w.heap.size < w2.heap.size := by have := q6.size; omega
  have hH := fun (W : World) (hW : Keeps w2 W) => holds_calls (q1.keeps hW) f v l x HV.out hx0 hx1
  have hC := fun (W : World) (hW : Keeps w2 W) => csize_calls (q1.keeps hW) f v l HV.out
  have hM := fun (W : World) (hW : Keeps w2 W) => rmay_calls (q2.keeps hW) f v l HV.out
  have hSm := fun (W : World) (hW : Keeps w2 W) => same_both (HBB.out.keeps hW)
  have HS := Lib.hid hSm
  have hr := mayC_range M f v l
  have HKW := Lib.hid hkw
  by_cases c0 : mayC M f v l = 0
  · have hfb : isFormB f = true := by
      cases hb : isFormB f with
      | true => rfl
      | false => unfold mayC at c0; rw [if_pos hb] at c0; cases c0
    have hl01 : ¬ (l < 0 ∨ M.n < l) := by
      intro hh
      unfold mayC at c0
      rw [if_neg (by rw [hfb]; simp), if_pos hh] at c0
      cases c0
    have hlead : M.leads f v l = true := by
      cases hb : M.leads f v l with
      | true => rfl
      | false => unfold mayC at c0; rw [if_neg (by rw [hfb]; simp), if_neg hl01, if_pos hb] at c0; cases c0
    have hf15 : 1 ≤ f ∧ f ≤ 5 := by unfold isFormB at hfb; simpa using hfb
    have hRH := fun (W : World) (hW : Keeps w2 W) => rholds_calls q2 f x hf15 hx0 hx1 (M.n - l).toNat l v W hW HV.out (by omega) (by omega) (by omega) (fun r hr2 => by obtain ⟨a, b, _⟩ := leads_some hlead hr2; exact ⟨a, b⟩)
    have hRR := fun (W : World) (hW : Keeps w2 W) (b : Nat) (cap : Nat) (hE : IsEdges W (some ⟨b, 0, none⟩) 1 [v]) => ref_reach (q2.keeps hW) (some ⟨b, 0, none⟩) 1 cap [v] hE (by omega)
    simp only [c0] at hH hC hM
    simp only [if_true, decide_true, Bool.true_and] at hH hC
    obtain ⟨bb, hbb⟩ : ∃ bb, bb = hS M f x (M.n - l).toNat l v := ⟨_, rfl⟩
    obtain ⟨N, hN⟩ : ∃ N, N = (reachL M.cs [v.to]).length := ⟨_, rfl⟩
    have hRR2 : ∀ (W : World), Keeps w2 W → ∀ (b : Nat) (cap : Nat), IsEdges W (some ⟨b, 0, none⟩) 1 [v] → Calls Try.prog 30 #[.pointer (some ⟨mb, 0, none⟩), .slice (some ⟨b, 0, none⟩) 1 cap] W fun e w' => (∃ a cap, e = .returned (.slice a N cap)) ∧ Keeps W w' := fun W hW b cap hE => (hRR W hW b cap hE).mono (by
      rintro e w' ⟨vv, rfl, hrow, hk2⟩
      obtain ⟨a, cap, rfl, hcc⟩ := hrow
      exact ⟨⟨a, cap, by rw [hN]; rfl⟩, hk2⟩)
    rw [← hbb] at hH hRH
    rw [← hN] at hC
    have HH := Lib.hid hH
    have HC := Lib.hid hC
    have HM := Lib.hid hM
    have HRH := Lib.hid hRH
    have HRR := Lib.hid hRR2
    clear hH hC hM hRH hRR hRR2 hbb hN hSm q1 q2 q3 q4 q5 q6 hk hkw hfb hl01 hlead hf15 c0 hr
    cases bb
    all_goals go_wp2_with (first | (go_at_call 56; refine (HH.out _ (Keeps.refl _)).mono ?_; rintro e w3 ⟨rfl, hk3⟩; have u0 := hk3.cell v0; have u1 := hk3.cell v1) | (go_at_call 57; refine (HC.out _ (by (repeat (first | with_reducible exact Keeps.refl _ | with_reducible assumption | with_reducible refine Keeps.alloc ?_ _ | with_reducible refine Keeps.drewN ?_ _ | with_reducible refine Keeps.drew ?_ | refine Keeps.setCell ?_ (by dsimp only; omega) _ | with_reducible refine Keeps.trans ?_ (by assumption))))).mono ?_; rintro e w4 ⟨rfl, hk4⟩; have t0 := hk4.cell u0; have t1 := hk4.cell u1) | (go_at_call 58; refine (HM.out _ (by (repeat (first | with_reducible exact Keeps.refl _ | with_reducible assumption | with_reducible refine Keeps.alloc ?_ _ | with_reducible refine Keeps.drewN ?_ _ | with_reducible refine Keeps.drew ?_ | refine Keeps.setCell ?_ (by dsimp only; omega) _ | with_reducible refine Keeps.trans ?_ (by assumption))))).mono ?_; rintro e w5 ⟨rfl, hk5⟩; have p0 := hk5.cell t0; have p1 := hk5.cell t1) | (go_at_call 59; refine (HRH.out _ (by (repeat (first | with_reducible exact Keeps.refl _ | with_reducible assumption | with_reducible refine Keeps.alloc ?_ _ | with_reducible refine Keeps.drewN ?_ _ | with_reducible refine Keeps.drew ?_ | refine Keeps.setCell ?_ (by dsimp only; omega) _ | with_reducible refine Keeps.trans ?_ (by assumption))))).mono ?_; rintro e w6 ⟨rfl, hk6⟩; have s0 := hk6.cell p0; have s1 := hk6.cell p1) | (go_at_call 60; refine (HS.out _ (by (repeat (first | with_reducible exact Keeps.refl _ | with_reducible assumption | with_reducible refine Keeps.alloc ?_ _ | with_reducible refine Keeps.drewN ?_ _ | with_reducible refine Keeps.drew ?_ | refine Keeps.setCell ?_ (by dsimp only; omega) _ | with_reducible refine Keeps.trans ?_ (by assumption))))).mono ?_; rintro e w8 ⟨rfl, hk8⟩) | fail)
    all_goals
      refine (HRR.out _ (by (repeat (first | with_reducible exact Keeps.refl _ | with_reducible assumption | with_reducible refine Keeps.alloc ?_ _ | with_reducible refine Keeps.drewN ?_ _ | with_reducible refine Keeps.drew ?_ | refine Keeps.setCell ?_ (by dsimp only; omega) _ | with_reducible refine Keeps.trans ?_ (by assumption)))) _ _ (isEdges_one HV.out (by simp [go_sem]) (by simp [go_sem]))).mono ?_
      rintro e w7 ⟨⟨a7, cap7, rfl⟩, hk7⟩
      go_wp2_with (first | (go_at_call 60; refine (HS.out _ (by (repeat (first | with_reducible exact Keeps.refl _ | with_reducible assumption | with_reducible refine Keeps.alloc ?_ _ | with_reducible refine Keeps.drewN ?_ _ | with_reducible refine Keeps.drew ?_ | refine Keeps.setCell ?_ (by dsimp only; omega) _ | with_reducible refine Keeps.trans ?_ (by assumption))))).mono ?_; rintro e w8 ⟨rfl, hk8⟩) | fail)
      go_ret
      exact ⟨rfl, by have := HKW.out; (repeat (first | with_reducible exact Keeps.refl _ | with_reducible assumption | with_reducible refine Keeps.alloc ?_ _ | with_reducible refine Keeps.drewN ?_ _ | with_reducible refine Keeps.drew ?_ | refine Keeps.setCell ?_ (by dsimp only; omega) _ | with_reducible refine Keeps.trans ?_ (by assumption)))⟩
  · obtain ⟨c, hc⟩ : ∃ c, c = mayC M f v l := ⟨_, rfl⟩
    rw [decide_eq_false c0, Bool.false_and] at hH
    rw [if_neg c0] at hC
    rw [← hc] at hH hC hM hr c0
    have HH := Lib.hid hH
    have HC := Lib.hid hC
    have HM := Lib.hid hM
    clear hH hC hM hc hSm q1 q2 q3 q4 q5 q6 hk hkw
    go_wp2_with (first | (go_at_call 56; refine (HH.out _ (Keeps.refl _)).mono ?_; rintro e w3 ⟨rfl, hk3⟩; have u0 := hk3.cell v0; have u1 := hk3.cell v1) | (go_at_call 57; refine (HC.out _ (by (repeat (first | with_reducible exact Keeps.refl _ | with_reducible assumption | with_reducible refine Keeps.alloc ?_ _ | with_reducible refine Keeps.drewN ?_ _ | with_reducible refine Keeps.drew ?_ | refine Keeps.setCell ?_ (by dsimp only; omega) _ | with_reducible refine Keeps.trans ?_ (by assumption))))).mono ?_; rintro e w4 ⟨rfl, hk4⟩; have t0 := hk4.cell u0; have t1 := hk4.cell u1) | (go_at_call 58; refine (HM.out _ (by (repeat (first | with_reducible exact Keeps.refl _ | with_reducible assumption | with_reducible refine Keeps.alloc ?_ _ | with_reducible refine Keeps.drewN ?_ _ | with_reducible refine Keeps.drew ?_ | refine Keeps.setCell ?_ (by dsimp only; omega) _ | with_reducible refine Keeps.trans ?_ (by assumption))))).mono ?_; rintro e w5 ⟨rfl, hk5⟩) | fail)
    go_ret
    exact ⟨rfl, by have := HKW.out; (repeat (first | with_reducible exact Keeps.refl _ | with_reducible assumption | with_reducible refine Keeps.alloc ?_ _ | with_reducible refine Keeps.drewN ?_ _ | with_reducible refine Keeps.drew ?_ | refine Keeps.setCell ?_ (by dsimp only; omega) _ | with_reducible refine Keeps.trans ?_ (by assumption)))⟩

theorem canonHolds_walk (n : Int) (a : Option Addr) (len cap : Nat) (rs : List Rec) (f : Int) (v : Edge) (l x : Int) (w : World) (_ : (Lit.int .i64 n).wf = true) (hrs : IsRecs w a len rs) (_ : (Lit.int .u8 f).wf = true) (hv : v.ok) (_ : (Lit.int .i64 l).wf = true) (hx : (Lit.int .u16 x).wf = true) :
    Calls Try.prog 12 #[.int .i64 n, .slice a len cap, .int .u8 f, .agg #[.int .u8 v.tag, .int .u32 v.to], .int .i64 l, .int .u16 x] w fun e w' => e = .returned (.bool true) ∧ Keeps w w' := by
  by_cases h : 40 < len ∨ n < 0 ∨ 16 < n
  · exact canonHolds_out n f l x a len cap v w h
  · have hx2 : 0 ≤ x ∧ x ≤ 65535 := by simpa [Lit.wf, IntKind.min, IntKind.max, IntKind.signed, IntKind.bits] using hx
    exact canonHolds_in n f l x a len cap rs v w hv (by omega) (by omega) (by omega) hx2.1 hx2.2 hrs

set_option maxRecDepth 100000 in
theorem canonHolds_lifted (os : Os) (started : os.Started) (H : Type) (enc : TypeId × Value → H) :
    ReturnsInHanded {} Try.checked os 12 .any (Rows.canonHoldsSpec.pre6 enc Try.prog Try.f12 Rows.canonHoldsRow.domain false) (Rows.canonHoldsSpec.post enc Try.prog Try.f12 false true false false) := by
  refine returnsInHanded_of_change (C := Try.checked) own started (by kernel_rfl) Try.func12
    (ChangeSpec.witness6 (enc := enc) (C := Try.checked) false ⟨#[], #[.int .i64 0, .slice none 0 0, .int .u8 0, .agg #[.int .u8 0, .int .u32 0], .int .i64 0, .int .u16 0], []⟩ 12 (by kernel_rfl) (by kernel_rfl) (by kernel_rfl) (by kernel_rfl)) ?_
  intro W base args ds gs before hval0 hW hcnd _
  have hval : ∀ (j : Nat) t v, Try.f12.params[j]? = some t → args[j]? = some v → Value.okWide Try.prog W .any base t v := hval0
  have hW' := hW
  obtain ⟨p, q, hA0, hV, rfl, hfz, hnd⟩ := hW
  have hA : DataW.TrodAll enc Try.prog W 0 (fun _ => true) true Try.f12.params.toList args.toList ds p := hA0
  rw [Try.params12] at hA hval
  have hAk := hA
  obtain ⟨v0, vs0, d0, ds0, p0, q0, hargs, rfl, rfl, h0, r0⟩ := trodAll_cons hA
  obtain ⟨v1, vs1, d1, ds1, p1, q1, rfl, rfl, rfl, h1, r1⟩ := trodAll_cons r0
  obtain ⟨v2, vs2, d2, ds2, p2, q2, rfl, rfl, rfl, h2, r2⟩ := trodAll_cons r1
  obtain ⟨v3, vs3, d3, ds3, p3, q3, rfl, rfl, rfl, h3, r3⟩ := trodAll_cons r2
  obtain ⟨v4, vs4, d4, ds4, p4, q4, rfl, rfl, rfl, h4, r4⟩ := trodAll_cons r3
  obtain ⟨v5, vs5, d5, ds5, p5, q5, rfl, rfl, rfl, h5, r5⟩ := trodAll_cons r4
  obtain ⟨rfl, rfl, rfl⟩ := trodAll_nil r5
  obtain rfl : args = #[v0, v1, v2, v3, v4, v5] := by cases args; simp_all
  obtain ⟨rfl, rfl⟩ := trodVars_none hV
  obtain ⟨a0, rfl, rfl, rfl, w0⟩ := open_int Try.underlying3 (hval 0 3 v0 rfl rfl) h0
  obtain ⟨a1, len1, cap1, rfl⟩ := okWide_slice Try.underlying37 (hval 1 37 v1 rfl rfl)
  obtain ⟨rs1, w1⟩ := open_recs h1
  obtain ⟨a2, rfl, rfl, rfl, w2⟩ := open_int Try.underlying5 (hval 2 5 v2 rfl rfl) h2
  obtain ⟨a3, w3, rfl⟩ := open_edge (hval 3 32 v3 rfl rfl) h3
  obtain ⟨a4, rfl, rfl, rfl, w4⟩ := open_int Try.underlying3 (hval 4 3 v4 rfl rfl) h4
  obtain ⟨a5, rfl, rfl, rfl, w5⟩ := open_int Try.underlying73 (hval 5 73 v5 rfl rfl) h5
  clear hA0 hval0
  refine (canonHolds_walk a0 a1 len1 cap1 rs1 a2 a3 a4 a5 W w0 w1 w2 w3 w4 w5).mono fun e W' ⟨he, bel⟩ => ?_
  subst he
  exact ⟨_, rfl, _, _, _, [], _, [], hW', trodAll_mk1 (shut_bool Try.underlying4 _), trodAll_below laidOut bel _ _ _ _ (by kernel_rfl) hAk, rfl, Below.frame bel _, fun h => by cases h⟩

theorem canonHolds_over : Rows.canonHoldsRow.holds Try.pinned (OpenSpec.ofChange Rows.canonHoldsSpec) :=
  OpenClaim.holds_of_wide 12 Try.f12 rfl rfl rfl rfl rfl rfl rfl ⟨rfl, rfl, rfl, rfl, rfl⟩ rfl rfl rfl rfl rfl (by kernel_rfl) Try.func12 (by kernel_rfl)
    (of_decide_eq_true (by kernel_rfl)) (by unfold Func.isWrapper; first | (rw [if_pos (by decide +kernel)]; kernel_rfl) | (rw [if_neg (by decide +kernel)]; exact ⟨rfl, rfl⟩))
    (fun os started H enc _ => canonHolds_lifted os started H enc)

theorem canonHolds_proved : Rows.CanonHoldsSaid := canonHolds_over

end Go.Proofs.Ytnkehgohamjpaaa
