/-
  Proved: the statement CzddHalves, for every input (printed by wip/mk_halves.py).
-/
import Derived.Test.YtnkehgohamjpaaaPHMadeQ
import Derived.Test.YtnkehgohamjpaaaPHalvesQ
import Derived.Test.YtnkehgohamjpaaaPLawBase
import Derived.Test.YtnkehgohamjpaaaPQAlive
import Derived.Test.YtnkehgohamjpaaaRows
namespace Go.Proofs.Ytnkehgohamjpaaa
set_option linter.unusedSimpArgs false
set_option linter.unusedVariables false
set_option maxHeartbeats 600000
open Go.ChangeShapes Go.WideShapes Go.ChangeAt Go.RowKit


set_option maxRecDepth 100000 in
theorem czddHalves_out (n a : Int) (w : World) (h : n < 0 ∨ 6 < n) :
    Calls Try.prog 6 #[.int .i64 n, .int .u64 a] w fun e w' => e = .returned (.bool true) ∧ Keeps w w' := by
  have H := Lib.hid h
  clear h
  go_enter Try.func6, Try.ntmps6
  go_wp2_with (first | (go_at_call 34; refine (q_alive _).mono ?_; rintro e w1 ⟨rfl, hk⟩) | fail)
  all_goals first | (go_ret; exact ⟨rfl, by (repeat (first | with_reducible exact Keeps.refl _ | with_reducible assumption | with_reducible refine Keeps.alloc ?_ _ | with_reducible refine Keeps.drewN ?_ _ | with_reducible refine Keeps.drew ?_ | refine Keeps.setCell ?_ (by dsimp only; omega) _ | with_reducible refine Keeps.trans ?_ (by assumption)))⟩) | (exfalso; have := H.out; omega)

set_option maxRecDepth 100000 in
theorem czddHalves_in (k : Nat) (a : Int) (w : World) (h : k ≤ 6) (ha : 0 ≤ a) (ha2 : a ≤ 18446744073709551615) :
    Calls Try.prog 6 #[.int .i64 (k : Int), .int .u64 a] w fun e w' => e = .returned (.bool true) ∧ Keeps w w' := by
  have h6 : 2 ^ k ≤ 2 ^ 6 := Nat.pow_le_pow_right (by decide) h
  have e6 : (2 : Nat) ^ 6 = 64 := rfl
  rw [e6] at h6
  have H6 := Lib.hid h6
  have hpos := Lib.hid (Nat.pow_pos (n := k) (show 0 < 2 by decide))
  clear h6 e6
  go_enter Try.func6, Try.ntmps6
  go_wp2_with (first | (go_at_call 34; refine (q_alive _).mono ?_; rintro e w1 ⟨rfl, hk⟩) | fail)
  refine (store_new (k : Int) 400 _ (by omega) (by omega) (by omega) (by omega)).mono ?_
  rintro e w2 ⟨sb, F, rfl, hk2, hF, hS⟩
  have HS := Lib.hid hS
  have HF := Lib.hid hF
  have z1 := hk.size
  have HK2 := Lib.hid (hk.trans hk2)
  clear hS hF hk2 hk
  go_wp2_with fail
  refine (bits_calls k (by omega) a ha ha2 _).mono ?_
  rintro e w3 ⟨bs, hbl, rfl, hB, hk3⟩
  have HB := Lib.hid hB
  have HK3 := Lib.hid hk3
  have HBL := Lib.hid hbl
  clear hB hk3 hbl
  have nFB : ¬ F w2.heap.size := fun hf => by have := HS.out.lt _ hf; omega
  have hmade := qmade_calls k (by omega) 0 (2 ^ k) 0 F w3 (St.new (k : Int) 400) (HS.out.keeps HK3.out) HB.out nFB (by omega) (Nat.le_refl _) (by have := H6.out; omega) (by rw [HBL.out]; omega) (by simp [St.new]) (by have := H6.out; simp [St.new, St.len]; omega)
  have HMD := Lib.hid hmade
  clear hmade
  go_wp2_with fail
  refine HMD.out.mono ?_
  rintro e w4 ⟨v, M2, rfl, hv, hm, hg, hst⟩
  have HST := Lib.hid hst
  have hst' := hst
  obtain ⟨⟨F4, r4, sub4⟩, u4⟩ := hst'
  have nF4 : ¬ F4 w2.heap.size := fun hf => by
    rcases sub4 _ hf with q | q
    · exact nFB q
    · have := HB.out.lt; omega
  have HB4 := Lib.hid (HB.out.keep u4 nFB)
  have hn2 : (0 : Int) + (k : Nat) = M2.n := by rw [hg.ext.n]; simp [St.new]
  have hhv := fun (W : World) (hW : Keeps w4 W) => qhalves_calls k (by omega) 0 (2 ^ k) 0 v F4 W (r4.keeps hW) (HB4.out.keep (Keeps.upd hW (fun _ => False)) (fun h => h)) nF4 (by omega) (Nat.le_refl _) (by have := H6.out; omega) (by rw [HBL.out]; omega) hn2 hv hm
  have HHV := Lib.hid hhv
  have HSUB := Lib.hid sub4
  have HU4 := Lib.hid u4
  clear hst r4 sub4 u4 hn2 hhv hm hg hv
  go_wp2_with fail
  refine (HHV.out _ (by (repeat (first | with_reducible exact Keeps.refl _ | with_reducible assumption | with_reducible refine Keeps.alloc ?_ _ | with_reducible refine Keeps.drewN ?_ _ | with_reducible refine Keeps.drew ?_ | refine Keeps.setCell ?_ (by dsimp only; omega) _ | with_reducible refine Keeps.trans ?_ (by assumption))))).mono ?_
  rintro e w5 ⟨rfl, hst5⟩
  have HST5 := Lib.hid hst5
  clear hst5
  go_wp2_with fail
  go_ret
  refine ⟨rfl, ?_⟩
  have k3 : Keeps w w3 := HK2.out.trans HK3.out
  have z2 := HK2.out.size
  have z3 := HK3.out.size
  have hFw : ∀ j, F j → w.heap.size ≤ j := fun j hj => by have := HF.out j hj; omega
  have k4 : Keeps w w4 := k3.new HU4.out hFw
  refine (k4.alloc _).new HST5.out.upd (fun j hj => ?_)
  rcases HSUB.out j hj with q | q
  · exact hFw j q
  · omega

theorem czddHalves_walk (n a : Int) (w : World) (_ : (Lit.int .i64 n).wf = true) (ha : (Lit.int .u64 a).wf = true) :
    Calls Try.prog 6 #[.int .i64 n, .int .u64 a] w fun e w' => e = .returned (.bool true) ∧ Keeps w w' := by
  by_cases h : n < 0 ∨ 6 < n
  · exact czddHalves_out n a w h
  · obtain ⟨k, rfl⟩ : ∃ k : Nat, n = (k : Int) := ⟨n.toNat, by omega⟩
    have hmin : IntKind.u64.min = 0 := rfl
    have hmax : IntKind.u64.max = 18446744073709551615 := rfl
    simp only [Lit.wf, Bool.and_eq_true, decide_eq_true_eq, hmin, hmax] at ha
    exact czddHalves_in k a w (by omega) ha.1 ha.2

set_option maxRecDepth 100000 in
theorem czddHalves_lifted (os : Os) (started : os.Started) (H : Type) (enc : TypeId × Value → H) :
    ReturnsInHanded {} Try.checked os 6 .any (Rows.czddHalvesSpec.pre6 enc Try.prog Try.f6 Rows.czddHalvesRow.domain false) (Rows.czddHalvesSpec.post enc Try.prog Try.f6 false true false false) := by
  refine returnsInHanded_of_change (C := Try.checked) own started (by kernel_rfl) Try.func6
    (ChangeSpec.witness6 (enc := enc) (C := Try.checked) false ⟨#[], #[.int .i64 0, .int .u64 0], []⟩ 12 (by kernel_rfl) (by kernel_rfl) (by kernel_rfl) (by kernel_rfl)) ?_
  intro W base args ds gs before hval0 hW hcnd _
  have hval : ∀ (j : Nat) t v, Try.f6.params[j]? = some t → args[j]? = some v → Value.okWide Try.prog W .any base t v := hval0
  have hW' := hW
  obtain ⟨p, q, hA0, hV, rfl, hfz, hnd⟩ := hW
  have hA : DataW.TrodAll enc Try.prog W 0 (fun _ => true) true Try.f6.params.toList args.toList ds p := hA0
  rw [Try.params6] at hA hval
  have hAk := hA
  obtain ⟨v0, vs0, d0, ds0, p0, q0, hargs, rfl, rfl, h0, r0⟩ := trodAll_cons hA
  obtain ⟨v1, vs1, d1, ds1, p1, q1, rfl, rfl, rfl, h1, r1⟩ := trodAll_cons r0
  obtain ⟨rfl, rfl, rfl⟩ := trodAll_nil r1
  obtain rfl : args = #[v0, v1] := by cases args; simp_all
  obtain ⟨rfl, rfl⟩ := trodVars_none hV
  obtain ⟨a0, rfl, rfl, rfl, w0⟩ := open_int Try.underlying3 (hval 0 3 v0 rfl rfl) h0
  obtain ⟨a1, rfl, rfl, rfl, w1⟩ := open_int Try.underlying22 (hval 1 22 v1 rfl rfl) h1
  clear hA0 hval0
  refine (czddHalves_walk a0 a1 W w0 w1).mono fun e W' ⟨he, bel⟩ => ?_
  subst he
  exact ⟨_, rfl, _, _, _, [], _, [], hW', trodAll_mk1 (shut_bool Try.underlying4 _), trodAll_below laidOut bel _ _ _ _ (by kernel_rfl) hAk, rfl, Below.frame bel _, fun h => by cases h⟩

theorem czddHalves_over : Rows.czddHalvesRow.holds Try.pinned (OpenSpec.ofChange Rows.czddHalvesSpec) :=
  OpenClaim.holds_of_wide 6 Try.f6 rfl rfl rfl rfl rfl rfl rfl ⟨rfl, rfl, rfl, rfl, rfl⟩ rfl rfl rfl rfl rfl (by kernel_rfl) Try.func6 (by kernel_rfl)
    (of_decide_eq_true (by kernel_rfl)) (by unfold Func.isWrapper; first | (rw [if_pos (by decide +kernel)]; kernel_rfl) | (rw [if_neg (by decide +kernel)]; exact ⟨rfl, rfl⟩))
    (fun os started H enc _ => czddHalves_lifted os started H enc)

theorem czddHalves_proved : Rows.CzddHalvesSaid := czddHalves_over

end Go.Proofs.Ytnkehgohamjpaaa
