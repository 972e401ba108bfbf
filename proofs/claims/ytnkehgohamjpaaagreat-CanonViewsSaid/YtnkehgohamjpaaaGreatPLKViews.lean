/-
  Proved: the statement CanonViews, for every input (printed by wip/mk_kview.py).
-/
import Derived.Test.YtnkehgohamjpaaaGreatPForeA
import Derived.Test.YtnkehgohamjpaaaGreatPKAlive
import Derived.Test.YtnkehgohamjpaaaGreatPKB
import Derived.Test.YtnkehgohamjpaaaGreatPLawBase
import Derived.Test.YtnkehgohamjpaaaGreatRows
namespace Go.Proofs.YtnkehgohamjpaaaGreat
set_option linter.unusedSimpArgs false
set_option linter.unusedVariables false
set_option maxHeartbeats 600000
open Go.ChangeShapes Go.WideShapes Go.ChangeAt Go.RowKit


set_option maxRecDepth 100000 in
theorem canonViews_out (n room f l : Int) (a : Option Addr) (len cap : Nat) (v : Edge) (w : World) (h : 40 < len ∨ n < 0 ∨ 16 < n ∨ room < 0 ∨ 100 < room) :
    Calls Tryz.prog 4 #[.int .i64 n, .int .i64 room, .slice a len cap, .int .u8 f, .agg #[.int .u8 v.tag, .int .u32 v.to], .int .i64 l] w fun e w' => e = .returned (.bool true) ∧ Keeps w w' := by
  have H := Lib.hid h
  clear h
  go_enter Tryz.func4, Tryz.ntmps4
  go_wp2_with (first | (go_at_call 5; refine (k_alive _).mono ?_; rintro e w1 ⟨rfl, hb⟩; have y0 := hb.cell (a := ⟨w.heap.size, 0, none⟩) (v := .int .u8 v.tag) (by simp [go_sem]); have y1 := hb.cell (a := ⟨w.heap.size, 1, none⟩) (v := .int .u32 v.to) (by simp [go_sem]); have hk : Keeps w w1 := (by (repeat (first | with_reducible exact Keeps.refl _ | with_reducible assumption | with_reducible refine Keeps.alloc ?_ _ | with_reducible refine Keeps.drewN ?_ _ | with_reducible refine Keeps.drew ?_ | refine Keeps.setCell ?_ (by dsimp only; omega) _ | with_reducible refine Keeps.trans ?_ (by assumption)))); have hsz := hb.size; simp only [World.size_alloc] at hsz) | fail)
  all_goals first | (go_ret; exact ⟨rfl, by (repeat (first | with_reducible exact Keeps.refl _ | with_reducible assumption | with_reducible refine Keeps.alloc ?_ _ | with_reducible refine Keeps.drewN ?_ _ | with_reducible refine Keeps.drew ?_ | refine Keeps.setCell ?_ (by dsimp only; omega) _ | with_reducible refine Keeps.trans ?_ (by assumption)))⟩) | (exfalso; have := H.out; omega)

set_option maxRecDepth 100000 in
theorem canonViews_in (n room f l : Int) (a : Option Addr) (len cap : Nat) (rs : List Rec) (v : Edge) (w : World) (hv : v.ok) (h1 : len ≤ 40) (h2 : 0 ≤ n) (h3 : n ≤ 16) (h4 : 0 ≤ room) (h5 : room ≤ 100) (hrs : IsRecs w a len rs) :
    Calls Tryz.prog 4 #[.int .i64 n, .int .i64 room, .slice a len cap, .int .u8 f, .agg #[.int .u8 v.tag, .int .u32 v.to], .int .i64 l] w fun e w' => e = .returned (.bool true) ∧ Keeps w w' := by
  have HR := Lib.hid hrs
  have HV := Lib.hid hv
  clear hrs hv
  go_enter Tryz.func4, Tryz.ntmps4
  go_wp2_with (first | (go_at_call 5; refine (k_alive _).mono ?_; rintro e w1 ⟨rfl, hb⟩; have y0 := hb.cell (a := ⟨w.heap.size, 0, none⟩) (v := .int .u8 v.tag) (by simp [go_sem]); have y1 := hb.cell (a := ⟨w.heap.size, 1, none⟩) (v := .int .u32 v.to) (by simp [go_sem]); have hk : Keeps w w1 := (by (repeat (first | with_reducible exact Keeps.refl _ | with_reducible assumption | with_reducible refine Keeps.alloc ?_ _ | with_reducible refine Keeps.drewN ?_ _ | with_reducible refine Keeps.drew ?_ | refine Keeps.setCell ?_ (by dsimp only; omega) _ | with_reducible refine Keeps.trans ?_ (by assumption)))); have hsz := hb.size; simp only [World.size_alloc] at hsz) | fail)
  refine (built n room a len cap rs _ h2 h3 h4 (by omega) (by omega) (HR.out.keeps hk)).mono ?_
  rintro e w2 ⟨sb, mb, M, L, rfl, hB⟩
  have hB0 := hB
  obtain ⟨⟨F0, G0, p1, p2, -⟩, p6⟩ := hB0
  have HR1 := Lib.hid (fun (W : World) (hW : Keeps w2 W) => canon_right (p1.keeps hW) f v l HV.out)
  have HR2 := Lib.hid (fun (W : World) (hW : Keeps w2 W) => ref17_right (p2.keeps hW) f v l HV.out)
  have v0 := p6.cell y0
  have v1 := p6.cell y1
  have HB0 := Lib.hid hB
  clear hB p1 p2 p6
  obtain ⟨bb, hbb⟩ : ∃ bb, bb = kRight M f v l := ⟨_, rfl⟩
  rw [← hbb] at HR1 HR2
  clear hbb
  go_wp2_with fail
  have k0 := KWorld.cell v0
  have k1 := KWorld.cell v1
  refine wp_region_keeps w2 (by kernel_rfl) (by kernel_rfl) (Keeps.refl _) ?_
  (repeat (go_big_quiet_step ((first | (go_at_call 12; with_reducible refine Calls.keepsK (HR1.out _ (KWorld.keep _))) | (go_at_call 16; with_reducible refine Calls.keepsK (HR2.out _ (KWorld.keep _)))))))
  refine wpQuiet_nil ?_
  rintro wq ⟨⟨w4, hkq⟩, rfl⟩
  try dsimp only
  have hB := HB0.out.keeps hkq
  clear hkq v0 v1 k0 k1
  obtain ⟨⟨F, G, q1, q2, q3, q4, q5⟩, q6⟩ := hB
  have v0 := q6.cell y0
  have v1 := q6.cell y1
  go_wp2_with fail
  have hr := kvErr M f v l
  obtain ⟨r1, r2⟩ := hr
  refine (canon_view q1 f v l HV.out).mono ?_
  rintro e w5 ⟨rfl, hu, hS3⟩
  have hk3 := q6.new hu q4
  have u0 := hk3.cell y0
  have u1 := hk3.cell y1
  have z1 := hk3.size
  have z2 : w.heap.size < w5.heap.size := by omega
  have HS3 := Lib.hid hS3
  have HU := Lib.hid hu
  have Q1 := Lib.hid q1
  have Q2 := Lib.hid q2
  have Q3 := Lib.hid q3
  have Q4 := Lib.hid q4
  have Q5 := Lib.hid q5
  have Q6 := Lib.hid q6
  clear hS3 hu q1 q2 q3 q4 q5 q6 v0 v1 y0 y1
  go_wp2_with fail
  refine (ref17_view ((Q2.out.keep HU.out (fun k hk hf => Q3.out k hf hk)).keeps (((Keeps.refl _).alloc _).alloc _)) f v l HV.out).mono ?_
  rintro e w6 ⟨rfl, hu4, hS4⟩
  have hB4 := Both.step Q1.out Q2.out Q3.out Q4.out Q5.out Q6.out HU.out HS3.out (((Keeps.refl _).alloc _).alloc _) hu4 hS4
  have nG : ¬ G w5.heap.size := fun h => by have := Q2.out.lt _ h; have := HU.out.size; omega
  have nG1 : ¬ G (w5.heap.size + 1) := fun h => by have := Q2.out.lt _ h; have := HU.out.size; omega
  have e0 := hu4.cell (a := ⟨w5.heap.size, 0, none⟩) nG (v := .int .u8 (vLo M (kvAct M f v l)).tag) (by simp [go_sem])
  have e1 := hu4.cell (a := ⟨w5.heap.size, 1, none⟩) nG (v := .int .u32 (vLo M (kvAct M f v l)).to) (by simp [go_sem])
  have f0 := hu4.cell (a := ⟨w5.heap.size + 1, 0, none⟩) nG1 (v := .int .u8 (vHi M f (kvAct M f v l)).tag) (by simp [go_sem])
  have f1 := hu4.cell (a := ⟨w5.heap.size + 1, 1, none⟩) nG1 (v := .int .u32 (vHi M f (kvAct M f v l)).to) (by simp [go_sem])
  have hq := eql_edge_same (vLo M (kvAct M f v l)) (vLo M (kvAct M f v l)) rfl
  have hq2 := eql_edge_same (vHi M f (kvAct M f v l)) (vHi M f (kvAct M f v l)) rfl
  have hs4 := hu4.size
  simp only [World.size_alloc] at hs4
  have z4 : w5.heap.size < w6.heap.size := by omega
  have z5 : w5.heap.size + 1 < w6.heap.size := by omega
  have hk4 : Keeps w w6 := hk.trans hB4.keep
  have HB := Lib.hid hB4
  clear hB4 hS4 hu4 nG nG1 hk3 u0 u1 hk
  go_wp2_with (go_at_call 19; refine (same_both (HB.out.keeps (by (repeat (first | with_reducible exact Keeps.refl _ | with_reducible assumption | with_reducible refine Keeps.alloc ?_ _ | with_reducible refine Keeps.drewN ?_ _ | with_reducible refine Keeps.drew ?_ | refine Keeps.setCell ?_ (by dsimp only; omega) _ | with_reducible refine Keeps.trans ?_ (by assumption)))))).mono ?_; rintro e w7 ⟨rfl, hb5⟩)
  go_ret
  exact ⟨rfl, by (repeat (first | with_reducible exact Keeps.refl _ | with_reducible assumption | with_reducible refine Keeps.alloc ?_ _ | with_reducible refine Keeps.drewN ?_ _ | with_reducible refine Keeps.drew ?_ | refine Keeps.setCell ?_ (by dsimp only; omega) _ | with_reducible refine Keeps.trans ?_ (by assumption)))⟩

theorem canonViews_walk (n room : Int) (a : Option Addr) (len cap : Nat) (rs : List Rec) (f : Int) (v : Edge) (l : Int) (w : World) (_ : (Lit.int .i64 n).wf = true) (_ : (Lit.int .i64 room).wf = true) (hrs : IsRecs w a len rs) (_ : (Lit.int .u8 f).wf = true) (hv : v.ok) (_ : (Lit.int .i64 l).wf = true) :
    Calls Tryz.prog 4 #[.int .i64 n, .int .i64 room, .slice a len cap, .int .u8 f, .agg #[.int .u8 v.tag, .int .u32 v.to], .int .i64 l] w fun e w' => e = .returned (.bool true) ∧ Keeps w w' := by
  by_cases h : 40 < len ∨ n < 0 ∨ 16 < n ∨ room < 0 ∨ 100 < room
  · exact canonViews_out n room f l a len cap v w h
  · exact canonViews_in n room f l a len cap rs v w hv (by omega) (by omega) (by omega) (by omega) (by omega) hrs

set_option maxRecDepth 100000 in
theorem canonViews_lifted (os : Os) (started : os.Started) (H : Type) (enc : TypeId × Value → H) :
    ReturnsInHanded {} Tryz.checked os 4 .any (Rows.canonViewsSpec.pre6 enc Tryz.prog Tryz.f4 Rows.canonViewsRow.domain false) (Rows.canonViewsSpec.post enc Tryz.prog Tryz.f4 false true false false) := by
  refine returnsInHanded_of_change (C := Tryz.checked) own started (by kernel_rfl) Tryz.func4
    (ChangeSpec.witness6 (enc := enc) (C := Tryz.checked) false ⟨#[], #[.int .i64 0, .int .i64 0, .slice none 0 0, .int .u8 0, .agg #[.int .u8 0, .int .u32 0], .int .i64 0], []⟩ 12 (by kernel_rfl) (by kernel_rfl) (by kernel_rfl) (by kernel_rfl)) ?_
  intro W base args ds gs before hval0 hW hcnd _
  have hval : ∀ (j : Nat) t v, Tryz.f4.params[j]? = some t → args[j]? = some v → Value.okWide Tryz.prog W .any base t v := hval0
  have hW' := hW
  obtain ⟨p, q, hA0, hV, rfl, hfz, hnd⟩ := hW
  have hA : DataW.TrodAll enc Tryz.prog W 0 (fun _ => true) true Tryz.f4.params.toList args.toList ds p := hA0
  rw [Tryz.params4] at hA hval
  have hAk := hA
  obtain ⟨v0, vs0, d0, ds0, p0, q0, hargs, rfl, rfl, h0, r0⟩ := trodAll_cons hA
  obtain ⟨v1, vs1, d1, ds1, p1, q1, rfl, rfl, rfl, h1, r1⟩ := trodAll_cons r0
  obtain ⟨v2, vs2, d2, ds2, p2, q2, rfl, rfl, rfl, h2, r2⟩ := trodAll_cons r1
  obtain ⟨v3, vs3, d3, ds3, p3, q3, rfl, rfl, rfl, h3, r3⟩ := trodAll_cons r2
  obtain ⟨v4, vs4, d4, ds4, p4, q4, rfl, rfl, rfl, h4, r4⟩ := trodAll_cons r3
  obtain ⟨v5, vs5, d5, ds5, p5, q5, rfl, rfl, rfl, h5, r5⟩ := trodAll_cons r4
  obtain ⟨rfl, rfl, rfl⟩ := trodAll_nil r5
  obtain rfl : args = #[v0, v1, v2, v3, v4, v5] := by cases args; simp_all
  obtain ⟨rfl, rfl⟩ := trodVars_none hV
  obtain ⟨a0, rfl, rfl, rfl, w0⟩ := open_int Tryz.underlying3 (hval 0 3 v0 rfl rfl) h0
  obtain ⟨a1, rfl, rfl, rfl, w1⟩ := open_int Tryz.underlying3 (hval 1 3 v1 rfl rfl) h1
  obtain ⟨a2, len2, cap2, rfl⟩ := okWide_slice Tryz.underlying43 (hval 2 43 v2 rfl rfl)
  obtain ⟨rs2, w2⟩ := open_recs h2
  obtain ⟨a3, rfl, rfl, rfl, w3⟩ := open_int Tryz.underlying5 (hval 3 5 v3 rfl rfl) h3
  obtain ⟨a4, w4, rfl⟩ := open_edge (hval 4 31 v4 rfl rfl) h4
  obtain ⟨a5, rfl, rfl, rfl, w5⟩ := open_int Tryz.underlying3 (hval 5 3 v5 rfl rfl) h5
  clear hA0 hval0
  refine (canonViews_walk a0 a1 a2 len2 cap2 rs2 a3 a4 a5 W w0 w1 w2 w3 w4 w5).mono fun e W' ⟨he, bel⟩ => ?_
  subst he
  exact ⟨_, rfl, _, _, _, [], _, [], hW', trodAll_mk1 (shut_bool Tryz.underlying4 _), trodAll_below laidOut bel _ _ _ _ (by kernel_rfl) hAk, rfl, Below.frame bel _, fun h => by cases h⟩

theorem canonViews_over : Rows.canonViewsRow.holds Tryz.pinned (OpenSpec.ofChange Rows.canonViewsSpec) :=
  OpenClaim.holds_of_wide 4 Tryz.f4 rfl rfl rfl rfl rfl rfl rfl ⟨rfl, rfl, rfl, rfl, rfl⟩ rfl rfl rfl rfl rfl (by kernel_rfl) Tryz.func4 (by kernel_rfl)
    (of_decide_eq_true (by kernel_rfl)) (by unfold Func.isWrapper; first | (rw [if_pos (by decide +kernel)]; kernel_rfl) | (rw [if_neg (by decide +kernel)]; exact ⟨rfl, rfl⟩))
    (fun os started H enc _ => canonViews_lifted os started H enc)

theorem canonViews_proved : Rows.CanonViewsSaid := canonViews_over

end Go.Proofs.YtnkehgohamjpaaaGreat
