/-
  Proved: the statement TbddRights, for every input (printed by wip/mk_rlaw.py).
-/
import Derived.Test.YtnkehgohamjpaaaPLawBase
import Derived.Test.YtnkehgohamjpaaaPRRightT
import Derived.Test.YtnkehgohamjpaaaPRightA
import Derived.Test.YtnkehgohamjpaaaPRightT
import Derived.Test.YtnkehgohamjpaaaPTAlive
import Derived.Test.YtnkehgohamjpaaaPTMakeA
import Derived.Test.YtnkehgohamjpaaaPVST
import Derived.Test.YtnkehgohamjpaaaRows
namespace Go.Proofs.Ytnkehgohamjpaaa
set_option linter.unusedSimpArgs false
set_option linter.unusedVariables false
set_option maxHeartbeats 600000
open Go.ChangeShapes Go.WideShapes Go.ChangeAt Go.RowKit


set_option maxRecDepth 100000 in
theorem tbddRights_out (n l : Int) (a : Option Addr) (len cap : Nat) (v : Edge) (w : World) (h : 40 < len ∨ n < 0 ∨ 16 < n) :
    Calls Try.prog 4 #[.int .i64 n, .slice a len cap, .agg #[.int .u8 v.tag, .int .u32 v.to], .int .i64 l] w fun e w' => e = .returned (.bool true) ∧ Keeps w w' := by
  have H := Lib.hid h
  clear h
  go_enter Try.func4, Try.ntmps4
  go_wp2_with (first | (go_at_call 13; refine (t_alive _).mono ?_; rintro e w1 ⟨rfl, hb⟩; have y0 := hb.cell (a := ⟨w.heap.size, 0, none⟩) (v := .int .u8 v.tag) (by simp [go_sem]); have y1 := hb.cell (a := ⟨w.heap.size, 1, none⟩) (v := .int .u32 v.to) (by simp [go_sem]); have hk : Keeps w w1 := (by (repeat (first | with_reducible exact Keeps.refl _ | with_reducible assumption | with_reducible refine Keeps.alloc ?_ _ | with_reducible refine Keeps.drewN ?_ _ | with_reducible refine Keeps.drew ?_ | refine Keeps.setCell ?_ (by dsimp only; omega) _ | with_reducible refine Keeps.trans ?_ (by assumption)))); have hsz := hb.size; simp only [World.size_alloc] at hsz) | fail)
  all_goals first | (go_ret; exact ⟨rfl, by (repeat (first | with_reducible exact Keeps.refl _ | with_reducible assumption | with_reducible refine Keeps.alloc ?_ _ | with_reducible refine Keeps.drewN ?_ _ | with_reducible refine Keeps.drew ?_ | refine Keeps.setCell ?_ (by dsimp only; omega) _ | with_reducible refine Keeps.trans ?_ (by assumption)))⟩) | (exfalso; have := H.out; omega)

set_option maxRecDepth 100000 in
set_option maxHeartbeats 1000000 in
theorem tbddRights_in (n l : Int) (a : Option Addr) (len cap : Nat) (rs : List Rec) (v : Edge) (w : World) (hv : v.ok) (h1 : len ≤ 40) (h2 : 0 ≤ n) (h3 : n ≤ 16) (hrs : IsRecs w a len rs) :
    Calls Try.prog 4 #[.int .i64 n, .slice a len cap, .agg #[.int .u8 v.tag, .int .u32 v.to], .int .i64 l] w fun e w' => e = .returned (.bool true) ∧ Keeps w w' := by
  have HR := Lib.hid hrs
  have HV := Lib.hid hv
  clear hrs hv
  go_enter Try.func4, Try.ntmps4
  go_wp2_with (first | (go_at_call 13; refine (t_alive _).mono ?_; rintro e w1 ⟨rfl, hb⟩; have y0 := hb.cell (a := ⟨w.heap.size, 0, none⟩) (v := .int .u8 v.tag) (by simp [go_sem]); have y1 := hb.cell (a := ⟨w.heap.size, 1, none⟩) (v := .int .u32 v.to) (by simp [go_sem]); have hk : Keeps w w1 := (by (repeat (first | with_reducible exact Keeps.refl _ | with_reducible assumption | with_reducible refine Keeps.alloc ?_ _ | with_reducible refine Keeps.drewN ?_ _ | with_reducible refine Keeps.drew ?_ | refine Keeps.setCell ?_ (by dsimp only; omega) _ | with_reducible refine Keeps.trans ?_ (by assumption)))); have hsz := hb.size; simp only [World.size_alloc] at hsz) | fail)
  refine (built' n 100 a len cap rs _ h2 h3 (by omega) (by omega) (by omega) (HR.out.keeps hk)).mono ?_
  rintro e w2 ⟨sb, mb, M, L, rfl, hB, hMn, hMr, hMl⟩
  subst hMn
  obtain ⟨⟨F, G, q1, q2, q3, q4, q5⟩, q6⟩ := hB
  have v0 := q6.cell y0
  have v1 := q6.cell y1
  have hR1 := fun (W : World) (hW : Keeps w2 W) => tbdd_right (q1.keeps hW) v l HV.out
  have hR2 := fun (W : World) (hW : Keeps w2 W) => ref16_right (q2.keeps hW) v l HV.out
  have Q6 := Lib.hid q6
  have HK := Lib.hid hk
  rcases bool_cases (rightL M 5 v l) with hb | hb
  · rw [hb] at hR1 hR2
    have HR1 := Lib.hid hR1
    have HR2 := Lib.hid hR2
    clear hR1 hR2 hb q1 q2 q3 q4 q5 q6 hk
    go_wp2_with fail
    refine (HR1.out _ (by (repeat (first | with_reducible exact Keeps.refl _ | with_reducible assumption | with_reducible refine Keeps.alloc ?_ _ | with_reducible refine Keeps.drewN ?_ _ | with_reducible refine Keeps.drew ?_ | refine Keeps.setCell ?_ (by dsimp only; omega) _ | with_reducible refine Keeps.trans ?_ (by assumption))))).mono ?_
    rintro e w3 ⟨rfl, hk3⟩
    have u0 := hk3.cell v0
    have u1 := hk3.cell v1
    go_wp2_with fail
    refine (HR2.out _ (by (repeat (first | with_reducible exact Keeps.refl _ | with_reducible assumption | with_reducible refine Keeps.alloc ?_ _ | with_reducible refine Keeps.drewN ?_ _ | with_reducible refine Keeps.drew ?_ | refine Keeps.setCell ?_ (by dsimp only; omega) _ | with_reducible refine Keeps.trans ?_ (by assumption))))).mono ?_
    rintro e w4 ⟨rfl, hk4⟩
    go_wp2_with fail
    go_ret
    exact ⟨rfl, by have := HK.out; have := Q6.out; (repeat (first | with_reducible exact Keeps.refl _ | with_reducible assumption | with_reducible refine Keeps.alloc ?_ _ | with_reducible refine Keeps.drewN ?_ _ | with_reducible refine Keeps.drew ?_ | refine Keeps.setCell ?_ (by dsimp only; omega) _ | with_reducible refine Keeps.trans ?_ (by assumption)))⟩
  · have hgood := fun (g0 : 0 ≤ l) (g1 : l < M.n) => law5 q1.wf HV.out g0 g1 hb
    have hfits := fun (g0 : 0 ≤ l) (g1 : l < M.n) => view_fit q1.wf q1.few (fun id r hl => q1.fit hl) (f := 5) HV.out g0 g1
    rw [hb] at hR1 hR2
    have HR1 := Lib.hid hR1
    have HR2 := Lib.hid hR2
    have HG := Lib.hid hgood
    have HF := Lib.hid hfits
    have Q1 := Lib.hid q1
    have Q4 := Lib.hid q4
    clear hR1 hR2 hb q1 q2 q3 q4 q5 q6 hgood hfits hk
    by_cases c0 : l < 0
    · go_wp2_with fail
      refine (HR1.out _ (by (repeat (first | with_reducible exact Keeps.refl _ | with_reducible assumption | with_reducible refine Keeps.alloc ?_ _ | with_reducible refine Keeps.drewN ?_ _ | with_reducible refine Keeps.drew ?_ | refine Keeps.setCell ?_ (by dsimp only; omega) _ | with_reducible refine Keeps.trans ?_ (by assumption))))).mono ?_
      rintro e w3 ⟨rfl, hk3⟩
      have u0 := hk3.cell v0
      have u1 := hk3.cell v1
      go_wp2_with fail
      refine (HR2.out _ (by (repeat (first | with_reducible exact Keeps.refl _ | with_reducible assumption | with_reducible refine Keeps.alloc ?_ _ | with_reducible refine Keeps.drewN ?_ _ | with_reducible refine Keeps.drew ?_ | refine Keeps.setCell ?_ (by dsimp only; omega) _ | with_reducible refine Keeps.trans ?_ (by assumption))))).mono ?_
      rintro e w4 ⟨rfl, hk4⟩
      go_wp2_with fail
      go_ret
      exact ⟨rfl, by have := HK.out; have := Q6.out; (repeat (first | with_reducible exact Keeps.refl _ | with_reducible assumption | with_reducible refine Keeps.alloc ?_ _ | with_reducible refine Keeps.drewN ?_ _ | with_reducible refine Keeps.drew ?_ | refine Keeps.setCell ?_ (by dsimp only; omega) _ | with_reducible refine Keeps.trans ?_ (by assumption)))⟩
    · by_cases c1 : M.n ≤ l
      · go_wp2_with fail
        refine (HR1.out _ (by (repeat (first | with_reducible exact Keeps.refl _ | with_reducible assumption | with_reducible refine Keeps.alloc ?_ _ | with_reducible refine Keeps.drewN ?_ _ | with_reducible refine Keeps.drew ?_ | refine Keeps.setCell ?_ (by dsimp only; omega) _ | with_reducible refine Keeps.trans ?_ (by assumption))))).mono ?_
        rintro e w3 ⟨rfl, hk3⟩
        have u0 := hk3.cell v0
        have u1 := hk3.cell v1
        go_wp2_with fail
        refine (HR2.out _ (by (repeat (first | with_reducible exact Keeps.refl _ | with_reducible assumption | with_reducible refine Keeps.alloc ?_ _ | with_reducible refine Keeps.drewN ?_ _ | with_reducible refine Keeps.drew ?_ | refine Keeps.setCell ?_ (by dsimp only; omega) _ | with_reducible refine Keeps.trans ?_ (by assumption))))).mono ?_
        rintro e w4 ⟨rfl, hk4⟩
        go_wp2_with fail
        go_ret
        exact ⟨rfl, by have := HK.out; have := Q6.out; (repeat (first | with_reducible exact Keeps.refl _ | with_reducible assumption | with_reducible refine Keeps.alloc ?_ _ | with_reducible refine Keeps.drewN ?_ _ | with_reducible refine Keeps.drew ?_ | refine Keeps.setCell ?_ (by dsimp only; omega) _ | with_reducible refine Keeps.trans ?_ (by assumption)))⟩
      · have hm := HG.out (by omega) (by omega)
        obtain ⟨hlo, hhi⟩ := HF.out (by omega) (by omega)
        have HVW := fun (W : World) (hW : Keeps w2 W) => tbdd_view (Q1.out.keeps hW) v l HV.out
        obtain ⟨lo, hlo'⟩ : ∃ lo, lo = vLo M (viewAct M 5 v l) := ⟨_, rfl⟩
        obtain ⟨hi, hhi'⟩ : ∃ hi, hi = vHi M 5 (viewAct M 5 v l) := ⟨_, rfl⟩
        obtain ⟨M2, hM2⟩ : ∃ M2, M2 = vSt M (viewAct M 5 v l) := ⟨_, rfl⟩
        rw [← hlo', ← hhi', ] at hm
        rw [← hlo'] at hlo
        rw [← hhi'] at hhi
        rw [← hlo', ← hhi', ← hM2] at HVW
        obtain ⟨k1, k2, k3, k4⟩ := hm
        rw [← hM2] at k2
        rw [← k2] at k3 k4
        rw [k1] at HVW
        have HVW := Lib.hid HVW
        have HMK : Hid (∀ (F' : Nat → Prop) (W : World), StoreRep F' W sb M2 → Calls Try.prog 22 #[.pointer (some ⟨sb, 0, none⟩), .int .i64 l, .agg #[.int .u8 lo.tag, .int .u32 lo.to], .agg #[.int .u8 hi.tag, .int .u32 hi.to]] W fun r w' => r = .returned (.tuple #[.agg #[.int .u8 v.tag, .int .u32 v.to], .int .u8 0]) ∧ Upd F' W w') :=
          Lib.hid (fun F' W hW => by
            have hc := tbdd_make hW l lo hi hlo hhi
            rw [k4, k3] at hc
            exact hc.mono fun r w' h => ⟨h.1, h.2.1⟩)
        have hq := eql_edge_same v v rfl
        clear hlo hhi hlo' hhi' hM2 k1 k3 k4
        go_wp2_with fail
        refine (HR1.out _ (by (repeat (first | with_reducible exact Keeps.refl _ | with_reducible assumption | with_reducible refine Keeps.alloc ?_ _ | with_reducible refine Keeps.drewN ?_ _ | with_reducible refine Keeps.drew ?_ | refine Keeps.setCell ?_ (by dsimp only; omega) _ | with_reducible refine Keeps.trans ?_ (by assumption))))).mono ?_
        rintro e w3 ⟨rfl, hk3⟩
        have u0 := hk3.cell v0
        have u1 := hk3.cell v1
        go_wp2_with fail
        refine (HR2.out _ (by (repeat (first | with_reducible exact Keeps.refl _ | with_reducible assumption | with_reducible refine Keeps.alloc ?_ _ | with_reducible refine Keeps.drewN ?_ _ | with_reducible refine Keeps.drew ?_ | refine Keeps.setCell ?_ (by dsimp only; omega) _ | with_reducible refine Keeps.trans ?_ (by assumption))))).mono ?_
        rintro e w4 ⟨rfl, hk4⟩
        have u0 := hk4.cell u0
        have u1 := hk4.cell u1
        have hk24 : Keeps w2 w4 := hk3.trans hk4
        go_wp2_with fail
        refine (HVW.out _ hk24).mono ?_
        rintro e w5 ⟨rfl, hu5, hS5⟩
        have hk5 : Keeps w1 w5 := (Q6.out.trans hk24).new hu5 Q4.out
        have HS5 := Lib.hid hS5
        have HU5 := Lib.hid hu5
        have HK5 := Lib.hid hk5
        have z5 := hk5.size
        have z24 := hk24.size
        have z6 := Q6.out.size
        clear hS5 hu5 v0 v1 u0 u1
        go_wp2_with fail
        refine (HMK.out _ _ (HS5.out.keeps (by (repeat (first | with_reducible exact Keeps.refl _ | with_reducible assumption | with_reducible refine Keeps.alloc ?_ _ | with_reducible refine Keeps.drewN ?_ _ | with_reducible refine Keeps.drew ?_ | refine Keeps.setCell ?_ (by dsimp only; omega) _ | with_reducible refine Keeps.trans ?_ (by assumption)))))).mono ?_
        rintro e w6 ⟨rfl, hu6⟩
        have hk6 : Keeps w1 w6 := by
          refine Keeps.new (show Keeps w1 _ from ?_) hu6 (fun k hk => ?_)
          · exact (HK5.out.alloc _).alloc _
          · rcases hk with hk | hk
            · exact Q4.out k hk
            · omega
        have u0 := hk6.cell y0
        have u1 := hk6.cell y1
        have z7 : w.heap.size < w6.heap.size := by have := hk6.size; omega
        have HK6 := Lib.hid hk6
        clear hk6 hu6 hk5
        go_wp2_with fail
        go_ret
        exact ⟨rfl, by have := HK.out; have := HK6.out; (repeat (first | with_reducible exact Keeps.refl _ | with_reducible assumption | with_reducible refine Keeps.alloc ?_ _ | with_reducible refine Keeps.drewN ?_ _ | with_reducible refine Keeps.drew ?_ | refine Keeps.setCell ?_ (by dsimp only; omega) _ | with_reducible refine Keeps.trans ?_ (by assumption)))⟩

theorem tbddRights_walk (n : Int) (a : Option Addr) (len cap : Nat) (rs : List Rec) (v : Edge) (l : Int) (w : World) (_ : (Lit.int .i64 n).wf = true) (hrs : IsRecs w a len rs) (hv : v.ok) (_ : (Lit.int .i64 l).wf = true) :
    Calls Try.prog 4 #[.int .i64 n, .slice a len cap, .agg #[.int .u8 v.tag, .int .u32 v.to], .int .i64 l] w fun e w' => e = .returned (.bool true) ∧ Keeps w w' := by
  by_cases h : 40 < len ∨ n < 0 ∨ 16 < n
  · exact tbddRights_out n l a len cap v w h
  · exact tbddRights_in n l a len cap rs v w hv (by omega) (by omega) (by omega) hrs

set_option maxRecDepth 100000 in
theorem tbddRights_lifted (os : Os) (started : os.Started) (H : Type) (enc : TypeId × Value → H) :
    ReturnsInHanded {} Try.checked os 4 .any (Rows.tbddRightsSpec.pre6 enc Try.prog Try.f4 Rows.tbddRightsRow.domain false) (Rows.tbddRightsSpec.post enc Try.prog Try.f4 false true false false) := by
  refine returnsInHanded_of_change (C := Try.checked) own started (by kernel_rfl) Try.func4
    (ChangeSpec.witness6 (enc := enc) (C := Try.checked) false ⟨#[], #[.int .i64 0, .slice none 0 0, .agg #[.int .u8 0, .int .u32 0], .int .i64 0], []⟩ 12 (by kernel_rfl) (by kernel_rfl) (by kernel_rfl) (by kernel_rfl)) ?_
  intro W base args ds gs before hval0 hW hcnd _
  have hval : ∀ (j : Nat) t v, Try.f4.params[j]? = some t → args[j]? = some v → Value.okWide Try.prog W .any base t v := hval0
  have hW' := hW
  obtain ⟨p, q, hA0, hV, rfl, hfz, hnd⟩ := hW
  have hA : DataW.TrodAll enc Try.prog W 0 (fun _ => true) true Try.f4.params.toList args.toList ds p := hA0
  rw [Try.params4] at hA hval
  have hAk := hA
  obtain ⟨v0, vs0, d0, ds0, p0, q0, hargs, rfl, rfl, h0, r0⟩ := trodAll_cons hA
  obtain ⟨v1, vs1, d1, ds1, p1, q1, rfl, rfl, rfl, h1, r1⟩ := trodAll_cons r0
  obtain ⟨v2, vs2, d2, ds2, p2, q2, rfl, rfl, rfl, h2, r2⟩ := trodAll_cons r1
  obtain ⟨v3, vs3, d3, ds3, p3, q3, rfl, rfl, rfl, h3, r3⟩ := trodAll_cons r2
  obtain ⟨rfl, rfl, rfl⟩ := trodAll_nil r3
  obtain rfl : args = #[v0, v1, v2, v3] := by cases args; simp_all
  obtain ⟨rfl, rfl⟩ := trodVars_none hV
  obtain ⟨a0, rfl, rfl, rfl, w0⟩ := open_int Try.underlying3 (hval 0 3 v0 rfl rfl) h0
  obtain ⟨a1, len1, cap1, rfl⟩ := okWide_slice Try.underlying37 (hval 1 37 v1 rfl rfl)
  obtain ⟨rs1, w1⟩ := open_recs h1
  obtain ⟨a2, w2, rfl⟩ := open_edge (hval 2 32 v2 rfl rfl) h2
  obtain ⟨a3, rfl, rfl, rfl, w3⟩ := open_int Try.underlying3 (hval 3 3 v3 rfl rfl) h3
  clear hA0 hval0
  refine (tbddRights_walk a0 a1 len1 cap1 rs1 a2 a3 W w0 w1 w2 w3).mono fun e W' ⟨he, bel⟩ => ?_
  subst he
  exact ⟨_, rfl, _, _, _, [], _, [], hW', trodAll_mk1 (shut_bool Try.underlying4 _), trodAll_below laidOut bel _ _ _ _ (by kernel_rfl) hAk, rfl, Below.frame bel _, fun h => by cases h⟩

theorem tbddRights_over : Rows.tbddRightsRow.holds Try.pinned (OpenSpec.ofChange Rows.tbddRightsSpec) :=
  OpenClaim.holds_of_wide 4 Try.f4 rfl rfl rfl rfl rfl rfl rfl ⟨rfl, rfl, rfl, rfl, rfl⟩ rfl rfl rfl rfl rfl (by kernel_rfl) Try.func4 (by kernel_rfl)
    (of_decide_eq_true (by kernel_rfl)) (by unfold Func.isWrapper; first | (rw [if_pos (by decide +kernel)]; kernel_rfl) | (rw [if_neg (by decide +kernel)]; exact ⟨rfl, rfl⟩))
    (fun os started H enc _ => tbddRights_lifted os started H enc)

theorem tbddRights_proved : Rows.TbddRightsSaid := tbddRights_over

end Go.Proofs.Ytnkehgohamjpaaa
