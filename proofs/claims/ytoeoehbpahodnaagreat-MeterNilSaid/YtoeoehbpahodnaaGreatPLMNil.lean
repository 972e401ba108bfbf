/-
  Proved: the statement MeterNil, for every input.
-/
import Derived.Test.YtoeoehbpahodnaaGreatPMeterNxA
import Derived.Test.YtoeoehbpahodnaaGreatPMeterO
import Derived.Test.YtoeoehbpahodnaaGreatRows
namespace Go.Proofs.YtoeoehbpahodnaaGreat
set_option linter.unusedSimpArgs false
set_option linter.unusedVariables false
set_option maxHeartbeats 600000
open Go.ChangeShapes Go.WideShapes Go.ChangeAt Go.RowKit

set_option maxRecDepth 100000 in
set_option maxHeartbeats 2000000 in
theorem meterNil_walk (f : Int) (v : Edge) (al : Option Addr) (ll cl : Nat) (los : List Int) (n : Int) (a : Option Addr) (len cap : Nat) (ws : List Int) (w : World) (_ : (Lit.int .u8 f).wf = true) (_ : v.ok) (_ : IsWords w al ll los) (_ : IsSet w n a len ws) :
    Calls Tryz.prog 9 #[.int .u8 f, .agg #[.int .u8 v.tag, .int .u32 v.to], .slice al ll cl, .agg #[.int .i64 n, .slice a len cap]] w fun e w' => e = .returned (.bool true) ∧ Keeps w w' := by
  go_enter Tryz.func9, Tryz.ntmps9
  go_wp2_with fail
  refine (l21_alive _).mono ?_
  rintro e w1 ⟨rfl, hk1⟩
  have v0 := hk1.cell (a := ⟨w.heap.size, 0, none⟩) (v := .int .u8 v.tag) (by simp [go_sem])
  have v1 := hk1.cell (a := ⟨w.heap.size, 1, none⟩) (v := .int .u32 v.to) (by simp [go_sem])
  have t0 := hk1.cell (a := ⟨w.heap.size + 1, 0, none⟩) (v := .int .i64 n) (by simp [go_sem])
  have t1 := hk1.cell (a := ⟨w.heap.size + 1, 1, none⟩) (v := .slice a len cap) (by simp [go_sem])
  have s1 := hk1.size
  simp only [World.size_alloc] at s1
  have hkw : Keeps w w1 := (((Keeps.refl w).alloc _).alloc _).trans hk1
  clear hk1
  go_wp2_with fail
  refine (nil_weigh f v al al ll cl ll cl _).mono ?_
  rintro e w2 ⟨rfl, hk2⟩
  replace v0 := hk2.cell v0
  replace v1 := hk2.cell v1
  replace t0 := hk2.cell t0
  replace t1 := hk2.cell t1
  have s2 := hk2.size
  have l2 : w.heap.size < w2.heap.size := by omega
  have l2' : w.heap.size + 1 < w2.heap.size := by omega
  go_wp2_with fail
  refine (nil_count f v _).mono ?_
  rintro e w3 ⟨rfl, hk3⟩
  replace v0 := hk3.cell v0
  replace v1 := hk3.cell v1
  replace t0 := hk3.cell t0
  replace t1 := hk3.cell t1
  have s3 := hk3.size
  have l3 : w.heap.size < w3.heap.size := by omega
  have l3' : w.heap.size + 1 < w3.heap.size := by omega
  go_wp2_with fail
  refine (nil_ones f v _).mono ?_
  rintro e w4 ⟨rfl, hk4⟩
  replace v0 := hk4.cell v0
  replace v1 := hk4.cell v1
  replace t0 := hk4.cell t0
  replace t1 := hk4.cell t1
  have s4 := hk4.size
  have l4 : w.heap.size < w4.heap.size := by omega
  have l4' : w.heap.size + 1 < w4.heap.size := by omega
  go_wp2_with fail
  refine (nil_profile f v _).mono ?_
  rintro e w5 ⟨rfl, hk5⟩
  replace v0 := hk5.cell v0
  replace v1 := hk5.cell v1
  replace t0 := hk5.cell t0
  replace t1 := hk5.cell t1
  have s5 := hk5.size
  have l5 : w.heap.size < w5.heap.size := by omega
  have l5' : w.heap.size + 1 < w5.heap.size := by omega
  go_wp2_with fail
  refine (nil_depth f v _).mono ?_
  rintro e w6 ⟨rfl, hk6⟩
  replace v0 := hk6.cell v0
  replace v1 := hk6.cell v1
  replace t0 := hk6.cell t0
  replace t1 := hk6.cell t1
  have s6 := hk6.size
  have l6 : w.heap.size < w6.heap.size := by omega
  have l6' : w.heap.size + 1 < w6.heap.size := by omega
  go_wp2_with fail
  refine (nil_ways f v _).mono ?_
  rintro e w7 ⟨rfl, hk7⟩
  replace t0 := hk7.cell t0
  replace t1 := hk7.cell t1
  have s7 := hk7.size
  have l7' : w.heap.size + 1 < w7.heap.size := by omega
  go_wp2_with fail
  refine (sizes_nil _ n a len cap _ rfl).mono ?_
  rintro e w8 ⟨rfl, hk8⟩
  go_wp2_with fail
  go_ret
  exact ⟨rfl, by (exact kp)⟩

set_option maxRecDepth 100000 in
theorem meterNil_lifted (os : Os) (started : os.Started) (H : Type) (enc : TypeId × Value → H) :
    ReturnsInHanded {} Tryz.checked os 9 .any (Rows.meterNilSpec.pre6 enc Tryz.prog Tryz.f9 Rows.meterNilRow.domain false) (Rows.meterNilSpec.post enc Tryz.prog Tryz.f9 false true false false) := by
  refine returnsInHanded_of_change (C := Tryz.checked) own started (by kernel_rfl) Tryz.func9
    (ChangeSpec.witness6 (enc := enc) (C := Tryz.checked) false ⟨#[], #[.int .u8 0, .agg #[.int .u8 0, .int .u32 0], .slice none 0 0, .agg #[.int .i64 0, .slice none 0 0]], []⟩ 12 (by kernel_rfl) (by kernel_rfl) (by kernel_rfl) (by kernel_rfl)) ?_
  intro W base args ds gs before hval0 hW hcnd _
  have hval : ∀ (j : Nat) t v, Tryz.f9.params[j]? = some t → args[j]? = some v → Value.okWide Tryz.prog W .any base t v := hval0
  have hW' := hW
  obtain ⟨p, q, hA0, hV, rfl, hfz, hnd⟩ := hW
  have hA : DataW.TrodAll enc Tryz.prog W 0 (fun _ => true) true Tryz.f9.params.toList args.toList ds p := hA0
  rw [Tryz.params9] at hA hval
  have hAk := hA
  obtain ⟨v0, vs0, d0, ds0, p0, q0, hargs, rfl, rfl, h0, r0⟩ := trodAll_cons hA
  obtain ⟨v1, vs1, d1, ds1, p1, q1, rfl, rfl, rfl, h1, r1⟩ := trodAll_cons r0
  obtain ⟨v2, vs2, d2, ds2, p2, q2, rfl, rfl, rfl, h2, r2⟩ := trodAll_cons r1
  obtain ⟨v3, vs3, d3, ds3, p3, q3, rfl, rfl, rfl, h3, r3⟩ := trodAll_cons r2
  obtain ⟨rfl, rfl, rfl⟩ := trodAll_nil r3
  obtain rfl : args = #[v0, v1, v2, v3] := by cases args; simp_all
  obtain ⟨rfl, rfl⟩ := trodVars_none hV
  obtain ⟨a0, rfl, rfl, rfl, w0⟩ := open_int Tryz.underlying5 (hval 0 5 v0 rfl rfl) h0
  obtain ⟨a1, w1, rfl⟩ := open_edge (hval 1 43 v1 rfl rfl) h1
  obtain ⟨a2, len2, cap2, rfl⟩ := okWide_slice Tryz.underlying23 (hval 2 23 v2 rfl rfl)
  obtain ⟨rs2, w2⟩ := open_u64s h2
  obtain ⟨n3, a3, len3, cap3, rs3, w3, rfl⟩ := open_set (hval 3 25 v3 rfl rfl) h3
  clear hA0 hval0
  refine (meterNil_walk a0 a1 a2 len2 cap2 rs2 n3 a3 len3 cap3 rs3 W w0 w1 w2 w3).mono fun e W' ⟨he, bel⟩ => ?_
  subst he
  exact ⟨_, rfl, _, _, _, [], _, [], hW', trodAll_mk1 (shut_bool Tryz.underlying4 _), trodAll_below laidOut bel _ _ _ _ (by kernel_rfl) hAk, rfl, Below.frame bel _, fun h => by cases h⟩

theorem meterNil_over : Rows.meterNilRow.holds Tryz.pinned (OpenSpec.ofChange Rows.meterNilSpec) :=
  OpenClaim.holds_of_wide 9 Tryz.f9 rfl rfl rfl rfl rfl rfl rfl ⟨rfl, rfl, rfl, rfl, rfl⟩ rfl rfl rfl rfl rfl (by kernel_rfl) Tryz.func9 (by kernel_rfl)
    (of_decide_eq_true (by kernel_rfl)) (by unfold Func.isWrapper; first | (rw [if_pos (by decide +kernel)]; kernel_rfl) | (rw [if_neg (by decide +kernel)]; exact ⟨rfl, rfl⟩))
    (fun os started H enc _ => meterNil_lifted os started H enc)

theorem meterNil_proved : Rows.MeterNilSaid := meterNil_over

end Go.Proofs.YtoeoehbpahodnaaGreat
