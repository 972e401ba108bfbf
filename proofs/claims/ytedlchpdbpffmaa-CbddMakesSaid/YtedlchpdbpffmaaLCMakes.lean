/-
  Proved: the statement CbddMakes, for every input (printed by wip/mk_law.py).
-/
import Derived.Test.YtedlchpdbpffmaaRows
import Derived.Test.YtedlchpdbpffmaaMErr
import Derived.Test.YtedlchpdbpffmaaCAlive
namespace Go.Proofs.Ytedlchpdbpffmaa
set_option linter.unusedSimpArgs false
set_option linter.unusedVariables false
set_option maxHeartbeats 600000
open Go.ChangeShapes Go.WideShapes Go.ChangeAt Go.RowKit


set_option maxRecDepth 100000 in
theorem cmakes_out (n room l : Int) (a : Option Addr) (len cap : Nat) (lo hi : Edge) (w : World) (h : 40 < len ∨ n < 0 ∨ 16 < n ∨ room < 0 ∨ 100 < room) :
    Calls Try.prog 6 #[.int .i64 n, .int .i64 room, .slice a len cap, .int .i64 l, .agg #[.int .u8 lo.tag, .int .u32 lo.to], .agg #[.int .u8 hi.tag, .int .u32 hi.to]] w fun e w' => e = .returned (.bool true) ∧ Keeps w w' := by
  have H := Lib.hid h
  clear h
  go_enter Try.func6, Try.ntmps6
  go_wp2_with (first | (go_at_call 30; refine (c_alive _).mono ?_; rintro e w1 ⟨rfl, hb⟩; have y0 := hb.cell (a := ⟨w.heap.size, 0, none⟩) (v := .int .u8 lo.tag) (by simp [go_sem]); have y1 := hb.cell (a := ⟨w.heap.size, 1, none⟩) (v := .int .u32 lo.to) (by simp [go_sem]); have x0 := hb.cell (a := ⟨w.heap.size + 1, 0, none⟩) (v := .int .u8 hi.tag) (by simp [go_sem]); have x1 := hb.cell (a := ⟨w.heap.size + 1, 1, none⟩) (v := .int .u32 hi.to) (by simp [go_sem]); have hk : Keeps w w1 := (by (repeat (first | with_reducible exact Keeps.refl _ | with_reducible assumption | with_reducible refine Keeps.alloc ?_ _ | with_reducible refine Keeps.drewN ?_ _ | with_reducible refine Keeps.drew ?_ | refine Keeps.setCell ?_ (by dsimp only; omega) _ | with_reducible refine Keeps.trans ?_ (by assumption)))); have hsz := hb.size; simp only [World.size_alloc] at hsz) | fail)
  all_goals first | (go_ret; exact ⟨rfl, by (repeat (first | with_reducible exact Keeps.refl _ | with_reducible assumption | with_reducible refine Keeps.alloc ?_ _ | with_reducible refine Keeps.drewN ?_ _ | with_reducible refine Keeps.drew ?_ | refine Keeps.setCell ?_ (by dsimp only; omega) _ | with_reducible refine Keeps.trans ?_ (by assumption)))⟩) | (exfalso; have := H.out; omega)

set_option maxRecDepth 100000 in
theorem cmakes_in (n room l : Int) (a : Option Addr) (len cap : Nat) (rs : List Rec) (lo hi : Edge) (w : World) (hlo : lo.ok) (hhi : hi.ok) (h1 : len ≤ 40) (h2 : 0 ≤ n) (h3 : n ≤ 16) (h4 : 0 ≤ room) (h5 : room ≤ 100) (hrs : IsRecs w a len rs) :
    Calls Try.prog 6 #[.int .i64 n, .int .i64 room, .slice a len cap, .int .i64 l, .agg #[.int .u8 lo.tag, .int .u32 lo.to], .agg #[.int .u8 hi.tag, .int .u32 hi.to]] w fun e w' => e = .returned (.bool true) ∧ Keeps w w' := by
  have HR := Lib.hid hrs
  have HL := Lib.hid hlo
  have HH := Lib.hid hhi
  clear hrs hlo hhi
  go_enter Try.func6, Try.ntmps6
  go_wp2_with (first | (go_at_call 30; refine (c_alive _).mono ?_; rintro e w1 ⟨rfl, hb⟩; have y0 := hb.cell (a := ⟨w.heap.size, 0, none⟩) (v := .int .u8 lo.tag) (by simp [go_sem]); have y1 := hb.cell (a := ⟨w.heap.size, 1, none⟩) (v := .int .u32 lo.to) (by simp [go_sem]); have x0 := hb.cell (a := ⟨w.heap.size + 1, 0, none⟩) (v := .int .u8 hi.tag) (by simp [go_sem]); have x1 := hb.cell (a := ⟨w.heap.size + 1, 1, none⟩) (v := .int .u32 hi.to) (by simp [go_sem]); have hk : Keeps w w1 := (by (repeat (first | with_reducible exact Keeps.refl _ | with_reducible assumption | with_reducible refine Keeps.alloc ?_ _ | with_reducible refine Keeps.drewN ?_ _ | with_reducible refine Keeps.drew ?_ | refine Keeps.setCell ?_ (by dsimp only; omega) _ | with_reducible refine Keeps.trans ?_ (by assumption)))); have hsz := hb.size; simp only [World.size_alloc] at hsz) | fail)
  refine (built n room a len cap rs _ h2 h3 h4 (by omega) (by omega) (HR.out.keeps hk)).mono ?_
  rintro e w2 ⟨sb, mb, M, L, rfl, hB⟩
  obtain ⟨⟨F, G, q1, q2, q3, q4, q5⟩, q6⟩ := hB
  have v0 := q6.cell y0
  have v1 := q6.cell y1
  have v2 := q6.cell x0
  have v3 := q6.cell x1
  go_wp2_with fail
  have hr := makeErr M 3 l lo hi _ (cRest_err M l lo hi)
  obtain ⟨r1, r2⟩ := hr
  refine (cbdd_make q1 l lo hi HL.out HH.out).mono ?_
  rintro e w3 ⟨rfl, hu, hS3⟩
  have hk3 := q6.new hu q4
  have u0 := hk3.cell y0
  have u1 := hk3.cell y1
  have u2 := hk3.cell x0
  have u3 := hk3.cell x1
  have z1 := hk3.size
  have z2 : w.heap.size < w3.heap.size := by omega
  have z3 : w.heap.size + 1 < w3.heap.size := by omega
  have HS3 := Lib.hid hS3
  have HU := Lib.hid hu
  have Q1 := Lib.hid q1
  have Q2 := Lib.hid q2
  have Q3 := Lib.hid q3
  have Q4 := Lib.hid q4
  have Q5 := Lib.hid q5
  have Q6 := Lib.hid q6
  clear hS3 hu q1 q2 q3 q4 q5 q6 v0 v1 v2 v3 y0 y1 x0 x1
  go_wp2_with fail
  refine (ref14_make ((Q2.out.keep HU.out (fun k hk hf => Q3.out k hf hk)).keeps ((Keeps.refl _).alloc _)) l lo hi HL.out HH.out).mono ?_
  rintro e w4 ⟨rfl, hu4, hS4⟩
  have hB4 := Both.step Q1.out Q2.out Q3.out Q4.out Q5.out Q6.out HU.out HS3.out ((Keeps.refl _).alloc _) hu4 hS4
  have nG : ¬ G w3.heap.size := fun h => by have := Q2.out.lt _ h; have := HU.out.size; omega
  have e0 := hu4.cell (a := ⟨w3.heap.size, 0, none⟩) nG (v := .int .u8 (actE0 M (makeAct M 3 l lo hi (cRest M l lo hi))).tag) (by simp [go_sem])
  have e1 := hu4.cell (a := ⟨w3.heap.size, 1, none⟩) nG (v := .int .u32 (actE0 M (makeAct M 3 l lo hi (cRest M l lo hi))).to) (by simp [go_sem])
  have hq := eql_edge_same (actE0 M (makeAct M 3 l lo hi (cRest M l lo hi))) (actE0 M (makeAct M 3 l lo hi (cRest M l lo hi))) rfl
  have hs4 := hu4.size
  simp only [World.size_alloc] at hs4
  have z4 : w3.heap.size < w4.heap.size := by omega
  have hk4 : Keeps w w4 := hk.trans hB4.keep
  have HB := Lib.hid hB4
  clear hB4 hS4 hu4 nG hk3 u0 u1 u2 u3 hk
  go_wp2_with (go_at_call 26; refine (same_both (HB.out.keeps (by (repeat (first | with_reducible exact Keeps.refl _ | with_reducible assumption | with_reducible refine Keeps.alloc ?_ _ | with_reducible refine Keeps.drewN ?_ _ | with_reducible refine Keeps.drew ?_ | refine Keeps.setCell ?_ (by dsimp only; omega) _ | with_reducible refine Keeps.trans ?_ (by assumption)))))).mono ?_; rintro e w5 ⟨rfl, hb5⟩)
  go_ret
  exact ⟨rfl, by (repeat (first | with_reducible exact Keeps.refl _ | with_reducible assumption | with_reducible refine Keeps.alloc ?_ _ | with_reducible refine Keeps.drewN ?_ _ | with_reducible refine Keeps.drew ?_ | refine Keeps.setCell ?_ (by dsimp only; omega) _ | with_reducible refine Keeps.trans ?_ (by assumption)))⟩

theorem cbddMakes_walk (n room : Int) (a : Option Addr) (len cap : Nat) (rs : List Rec) (l : Int) (lo hi : Edge) (w : World) (_ : (Lit.int .i64 n).wf = true) (_ : (Lit.int .i64 room).wf = true) (hrs : IsRecs w a len rs) (_ : (Lit.int .i64 l).wf = true) (hlo : lo.ok) (hhi : hi.ok) :
    Calls Try.prog 6 #[.int .i64 n, .int .i64 room, .slice a len cap, .int .i64 l, .agg #[.int .u8 lo.tag, .int .u32 lo.to], .agg #[.int .u8 hi.tag, .int .u32 hi.to]] w fun e w' => e = .returned (.bool true) ∧ Keeps w w' := by
  by_cases h : 40 < len ∨ n < 0 ∨ 16 < n ∨ room < 0 ∨ 100 < room
  · exact cmakes_out n room l a len cap lo hi w h
  · exact cmakes_in n room l a len cap rs lo hi w hlo hhi (by omega) (by omega) (by omega) (by omega) (by omega) hrs

set_option maxRecDepth 100000 in
theorem cbddMakes_lifted (os : Os) (started : os.Started) (H : Type) (enc : TypeId × Value → H) :
    ReturnsInHanded {} Try.checked os 6 .any (Rows.cbddMakesSpec.pre6 enc Try.prog Try.f6 Rows.cbddMakesRow.domain false) (Rows.cbddMakesSpec.post enc Try.prog Try.f6 false true false false) := by
  refine returnsInHanded_of_change (C := Try.checked) own started (by kernel_rfl) Try.func6
    (ChangeSpec.witness6 (enc := enc) (C := Try.checked) false ⟨#[], #[.int .i64 0, .int .i64 0, .slice none 0 0, .int .i64 0, .agg #[.int .u8 0, .int .u32 0], .agg #[.int .u8 0, .int .u32 0]], []⟩ 12 (by kernel_rfl) (by kernel_rfl) (by kernel_rfl) (by kernel_rfl)) ?_
  intro W base args ds gs before hval0 hW hcnd _
  have hval : ∀ (j : Nat) t v, Try.f6.params[j]? = some t → args[j]? = some v → Value.okWide Try.prog W .any base t v := hval0
  have hW' := hW
  obtain ⟨p, q, hA0, hV, rfl, hfz, hnd⟩ := hW
  have hA : DataW.TrodAll enc Try.prog W 0 (fun _ => true) true Try.f6.params.toList args.toList ds p := hA0
  rw [Try.params6] at hA hval
  have hAk := hA
  obtain ⟨v0, vs0, d0, ds0, p0, q0, hargs, rfl, rfl, h0, r0⟩ := trodAll_cons hA
  obtain ⟨v1, vs1, d1, ds1, p1, q1, rfl, rfl, rfl, h1, r1⟩ := trodAll_cons r0
  obtain ⟨v2, vs2, d2, ds2, p2, q2, rfl, rfl, rfl, h2, r2⟩ := trodAll_cons r1
  obtain ⟨v3, vs3, d3, ds3, p3, q3, rfl, rfl, rfl, h3, r3⟩ := trodAll_cons r2
  obtain ⟨v4, vs4, d4, ds4, p4, q4, rfl, rfl, rfl, h4, r4⟩ := trodAll_cons r3
  obtain ⟨v5, vs5, d5, ds5, p5, q5, rfl, rfl, rfl, h5, r5⟩ := trodAll_cons r4
  obtain ⟨rfl, rfl, rfl⟩ := trodAll_nil r5
  obtain rfl : args = #[v0, v1, v2, v3, v4, v5] := by cases args; simp_all
  obtain ⟨rfl, rfl⟩ := trodVars_none hV
  obtain ⟨a0, rfl, rfl, rfl, w0⟩ := open_int Try.underlying3 (hval 0 3 v0 rfl rfl) h0
  obtain ⟨a1, rfl, rfl, rfl, w1⟩ := open_int Try.underlying3 (hval 1 3 v1 rfl rfl) h1
  obtain ⟨a2, len2, cap2, rfl⟩ := okWide_slice Try.underlying41 (hval 2 41 v2 rfl rfl)
  obtain ⟨rs2, w2⟩ := open_recs h2
  obtain ⟨a3, rfl, rfl, rfl, w3⟩ := open_int Try.underlying3 (hval 3 3 v3 rfl rfl) h3
  obtain ⟨a4, w4, rfl⟩ := open_edge (hval 4 35 v4 rfl rfl) h4
  obtain ⟨a5, w5, rfl⟩ := open_edge (hval 5 35 v5 rfl rfl) h5
  clear hA0 hval0
  refine (cbddMakes_walk a0 a1 a2 len2 cap2 rs2 a3 a4 a5 W w0 w1 w2 w3 w4 w5).mono fun e W' ⟨he, bel⟩ => ?_
  subst he
  exact ⟨_, rfl, _, _, _, [], _, [], hW', trodAll_mk1 (shut_bool Try.underlying4 _), trodAll_below laidOut bel _ _ _ _ (by kernel_rfl) hAk, rfl, Below.frame bel _, fun h => by cases h⟩

theorem cbddMakes_over : Rows.cbddMakesRow.holds Try.pinned (OpenSpec.ofChange Rows.cbddMakesSpec) :=
  OpenClaim.holds_of_wide 6 Try.f6 rfl rfl rfl rfl rfl rfl rfl ⟨rfl, rfl, rfl, rfl, rfl⟩ rfl rfl rfl rfl rfl (by kernel_rfl) Try.func6 (by kernel_rfl)
    (of_decide_eq_true (by kernel_rfl)) (by unfold Func.isWrapper; first | (rw [if_pos (by decide +kernel)]; kernel_rfl) | (rw [if_neg (by decide +kernel)]; exact ⟨rfl, rfl⟩))
    (fun os started H enc _ => cbddMakes_lifted os started H enc)

theorem cbddMakes_proved : Rows.CbddMakesSaid := cbddMakes_over

