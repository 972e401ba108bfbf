/-
  Proved: the statement StoreNil, for every input.
-/
import Derived.Test.YtacanmmkhbdmlaaPLawBase
import Derived.Test.YtacanmmkhbdmlaaPOpens2
import Derived.Test.YtacanmmkhbdmlaaPRecEq
import Derived.Test.YtacanmmkhbdmlaaPSAlive
import Derived.Test.YtacanmmkhbdmlaaRows
namespace Go.Proofs.Ytacanmmkhbdmlaa
set_option linter.unusedSimpArgs false
set_option linter.unusedVariables false
set_option maxHeartbeats 600000
open Go.ChangeShapes Go.WideShapes Go.ChangeAt Go.RowKit Go.Shelf

set_option maxRecDepth 100000 in
theorem nils_find (r : Rec) (w : World) : Calls Try.prog 53 #[.pointer none, .agg #[.int .u8 r.form, .int .u8 r.top, .int .u8 r.bot, .int .u8 r.lo.tag, .int .u32 r.lo.to, .int .u8 r.hi.tag, .int .u32 r.hi.to]] w fun e w' => e = .returned (.tuple #[.int .u32 0, .int .u8 2]) ∧ Keeps w w' := by
  go_enter Try.func53, Try.ntmps53
  go_wp2
  go_ret2
  exact ⟨rfl, by (repeat (first | with_reducible exact Keeps.refl _ | with_reducible assumption | with_reducible refine Keeps.alloc ?_ _ | with_reducible refine Keeps.drewN ?_ _ | with_reducible refine Keeps.drew ?_ | refine Keeps.setCell ?_ (by dsimp only; omega) _ | with_reducible refine Keeps.trans ?_ (by assumption)))⟩

set_option maxRecDepth 100000 in
theorem nils_has (r : Rec) (w : World) : Calls Try.prog 55 #[.pointer none, .agg #[.int .u8 r.form, .int .u8 r.top, .int .u8 r.bot, .int .u8 r.lo.tag, .int .u32 r.lo.to, .int .u8 r.hi.tag, .int .u32 r.hi.to]] w fun e w' => e = .returned (.tuple #[.int .u32 0, .bool false]) ∧ Keeps w w' := by
  go_enter Try.func55, Try.ntmps55
  go_wp2
  go_ret2
  exact ⟨rfl, by (repeat (first | with_reducible exact Keeps.refl _ | with_reducible assumption | with_reducible refine Keeps.alloc ?_ _ | with_reducible refine Keeps.drewN ?_ _ | with_reducible refine Keeps.drew ?_ | refine Keeps.setCell ?_ (by dsimp only; omega) _ | with_reducible refine Keeps.trans ?_ (by assumption)))⟩

set_option maxRecDepth 100000 in
theorem nils_get (id : Int) (w : World) : Calls Try.prog 54 #[.pointer none, .int .u32 id] w fun e w' => e = .returned (.tuple #[.agg #[.int .u8 Rec.zero.form, .int .u8 Rec.zero.top, .int .u8 Rec.zero.bot, .int .u8 Rec.zero.lo.tag, .int .u32 Rec.zero.lo.to, .int .u8 Rec.zero.hi.tag, .int .u32 Rec.zero.hi.to], .bool false]) ∧ Keeps w w' := by
  go_enter Try.func54, Try.ntmps54
  go_wp2
  all_goals refine bodyPost_ret (v := .tuple #[.agg #[.int .u8 Rec.zero.form, .int .u8 Rec.zero.top, .int .u8 Rec.zero.bot, .int .u8 Rec.zero.lo.tag, .int .u32 Rec.zero.lo.to, .int .u8 Rec.zero.hi.tag, .int .u32 Rec.zero.hi.to], .bool false]) (by simp [results, Try.results54, go_sem, Rec.zero]) rfl ⟨rfl, by (repeat (first | with_reducible exact Keeps.refl _ | with_reducible assumption | with_reducible refine Keeps.alloc ?_ _ | with_reducible refine Keeps.drewN ?_ _ | with_reducible refine Keeps.drew ?_ | refine Keeps.setCell ?_ (by dsimp only; omega) _ | with_reducible refine Keeps.trans ?_ (by assumption)))⟩

theorem nils_vars (w : World) : Calls Try.prog 56 #[.pointer none] w fun e w' => e = .returned (.int .i64 0) ∧ w = w' := by
  go_enter Try.func56, Try.ntmps56
  go_wp2
  go_ret
  exact ⟨rfl, rfl⟩

theorem nils_len (w : World) : Calls Try.prog 20 #[.pointer none] w fun e w' => e = .returned (.int .i64 0) ∧ w = w' := by
  go_enter Try.func20, Try.ntmps20
  go_wp2
  go_ret
  exact ⟨rfl, rfl⟩

theorem nils_room (w : World) : Calls Try.prog 57 #[.pointer none] w fun e w' => e = .returned (.int .i64 0) ∧ w = w' := by
  go_enter Try.func57, Try.ntmps57
  go_wp2
  go_ret
  exact ⟨rfl, rfl⟩

set_option maxRecDepth 100000 in
theorem nils_leads (f l : Int) (v : Edge) (w : World) : Calls Try.prog 43 #[.pointer none, .int .u8 f, .agg #[.int .u8 v.tag, .int .u32 v.to], .int .i64 l] w fun e w' => e = .returned (.bool false) ∧ Keeps w w' := by
  go_enter Try.func43, Try.ntmps43
  go_wp2_with fail
  go_region
  all_goals go_wp2
  all_goals (go_ret; exact ⟨rfl, by (repeat (first | with_reducible exact Keeps.refl _ | with_reducible assumption | with_reducible refine Keeps.alloc ?_ _ | with_reducible refine Keeps.drewN ?_ _ | with_reducible refine Keeps.drew ?_ | refine Keeps.setCell ?_ (by dsimp only; omega) _ | with_reducible refine Keeps.trans ?_ (by assumption)))⟩)

set_option maxRecDepth 100000 in
theorem nils_top (v : Edge) (w : World) : Calls Try.prog 45 #[.pointer none, .agg #[.int .u8 v.tag, .int .u32 v.to]] w fun e w' => e = .returned (.int .i64 (-1)) ∧ Keeps w w' := by
  go_enter Try.func45, Try.ntmps45
  go_wp2
  go_ret
  exact ⟨rfl, by (repeat (first | with_reducible exact Keeps.refl _ | with_reducible assumption | with_reducible refine Keeps.alloc ?_ _ | with_reducible refine Keeps.drewN ?_ _ | with_reducible refine Keeps.drew ?_ | refine Keeps.setCell ?_ (by dsimp only; omega) _ | with_reducible refine Keeps.trans ?_ (by assumption)))⟩

theorem nils_ids (w : World) : Calls Try.prog 51 #[.pointer none] w fun e w' => e = .returned (.func (.func 97) #[] #[]) ∧ w = w' := by
  go_enter Try.func51, Try.ntmps51
  go_wp2
  go_ret
  exact ⟨rfl, rfl⟩

theorem nils_reach (a : Option Addr) (len cap : Nat) (w : World) : Calls Try.prog 48 #[.pointer none, .slice a len cap] w fun e w' => e = .returned (.slice none 0 0) ∧ w = w' := by
  go_enter Try.func48, Try.ntmps48
  go_wp2
  go_ret
  exact ⟨rfl, rfl⟩

theorem nils_sweep (a : Option Addr) (len cap : Nat) (w : World) : Calls Try.prog 27 #[.pointer none, .slice a len cap] w fun e w' => e = .returned (.int .i64 0) ∧ w = w' := by
  go_enter Try.func27, Try.ntmps27
  go_wp2
  go_ret
  exact ⟨rfl, rfl⟩

set_option maxRecDepth 100000 in
theorem nils_enter (args : Array Value) (w : World) : (callFunc 97 args).run Try.prog w = .ok (.enter 97 args) w := enters_of Try.func97 (by kernel_rfl) rfl args w

/-- No ids. -/
theorem nils_iter (St : World → Prop) : Iter Try.prog 97 #[] [] 0 St := by
  intro l J Jx W hJ hA hAx hR h0 n
  refine callsIn_of_wp Try.func97 rfl trivial ?_ rfl
  simp only [Try.ntmps97, List.size_toArray, List.length_cons, List.length_nil, Nat.reduceAdd, Nat.reduceSub, Array.replicate_succ, Array.replicate_zero, List.push_toArray, List.append_toArray, List.nil_append, List.cons_append]
  gi_wp2
  go_end0
  exact ⟨⟨_, rfl⟩, .inl h0⟩

set_option maxRecDepth 100000 in
theorem nils_collect (w : World) : Calls Try.prog 50 #[.func (.func 97) #[] #[], .int .i64 9] w fun e w' => ∃ a cap, e = .returned (.slice a 0 cap) ∧ Keeps w w' := by
  refine (collect_calls (nils_iter (fun A => Keeps w A)) (fun A hA => hA) nils_enter take_enter (by simp) (by omega)).mono ?_
  rintro e w' ⟨v, rfl, ⟨a, cap, rfl, _⟩, hk⟩
  exact ⟨a, cap, rfl, hk⟩

set_option maxRecDepth 100000 in
theorem storeNil_walk (r : Rec) (id l : Int) (w : World) (hr : r.ok) (_ : (Lit.int .u32 id).wf = true) (_ : (Lit.int .i64 l).wf = true) :
    Calls Try.prog 13 #[.agg #[.int .u8 r.form, .int .u8 r.top, .int .u8 r.bot, .int .u8 r.lo.tag, .int .u32 r.lo.to, .int .u8 r.hi.tag, .int .u32 r.hi.to], .int .u32 id, .int .i64 l] w fun e w' => e = .returned (.bool true) ∧ Keeps w w' := by
  go_enter Try.func13, Try.ntmps13
  go_wp2_with (go_at_call 22; refine (s_alive _).mono ?_; rintro e w1 ⟨rfl, hb⟩; obtain ⟨y0, y1, y2, y3, y4, y5, y6⟩ := box7 (w := w) (w1 := w1) hb; have hsz := hb.size; simp only [World.size_alloc] at hsz; have hk : Keeps w w1 := (by (repeat (first | with_reducible exact Keeps.refl _ | with_reducible assumption | with_reducible refine Keeps.alloc ?_ _ | with_reducible refine Keeps.drewN ?_ _ | with_reducible refine Keeps.drew ?_ | refine Keeps.setCell ?_ (by dsimp only; omega) _ | with_reducible refine Keeps.trans ?_ (by assumption)))))
  refine (nils_find r _).mono ?_
  rintro e w2 ⟨rfl, hb2⟩
  obtain ⟨y0, y1, y2, y3, y4, y5, y6⟩ := hb2.cell7 ⟨y0, y1, y2, y3, y4, y5, y6⟩
  have hk : Keeps w w2 := hk.trans hb2
  have hsz := hb2.size
  clear hb hb2
  go_wp2_with fail
  refine (nils_has r _).mono ?_
  rintro e w3 ⟨rfl, hb2⟩
  obtain ⟨y0, y1, y2, y3, y4, y5, y6⟩ := hb2.cell7 ⟨y0, y1, y2, y3, y4, y5, y6⟩
  have hk : Keeps w w3 := hk.trans hb2
  clear hb2
  go_wp2_with fail
  refine (nils_get id _).mono ?_
  rintro e w4 ⟨rfl, hb2⟩
  obtain ⟨y0, y1, y2, y3, y4, y5, y6⟩ := hb2.cell7 ⟨y0, y1, y2, y3, y4, y5, y6⟩
  have hk : Keeps w w4 := hk.trans hb2
  have z0 := lt_of_cell y0
  dsimp only at z0
  clear hb2
  go_wp2_with (first
    | (go_at_call 56; refine (nils_vars _).mono ?_; rintro e' w' ⟨rfl, rfl⟩)
    | (go_at_call 20; refine (nils_len _).mono ?_; rintro e' w' ⟨rfl, rfl⟩)
    | (go_at_call 57; refine (nils_room _).mono ?_; rintro e' w' ⟨rfl, rfl⟩)
    | (go_at_call 43; refine (nils_leads r.form l r.lo _).mono ?_; rintro e' w5 ⟨rfl, hk5⟩; have hk45 : Keeps w4 w5 := (by (repeat (first | with_reducible exact Keeps.refl _ | with_reducible assumption | with_reducible refine Keeps.alloc ?_ _ | with_reducible refine Keeps.drewN ?_ _ | with_reducible refine Keeps.drew ?_ | refine Keeps.setCell ?_ (by dsimp only; omega) _ | with_reducible refine Keeps.trans ?_ (by assumption)))); obtain ⟨x0, x1, x2, x3, x4, x5, x6⟩ := hk45.cell7 ⟨y0, y1, y2, y3, y4, y5, y6⟩)
    | (go_at_call 45; refine (nils_top r.lo _).mono ?_; rintro e' w6 ⟨rfl, hk6⟩; obtain ⟨u0, u1, u2, u3, u4, u5, u6⟩ := hk6.cell7 ⟨x0, x1, x2, x3, x4, x5, x6⟩)
    | (go_at_call 51; refine (nils_ids _).mono ?_; rintro e' w' ⟨rfl, rfl⟩)
    | (go_at_call 50; refine (nils_collect _).mono ?_; rintro e' w7 ⟨ca, ccap, rfl, hk7⟩; obtain ⟨v0, v1, v2, v3, v4, v5, v6⟩ := hk7.cell7 ⟨u0, u1, u2, u3, u4, u5, u6⟩)
    | (go_at_call 48; refine (nils_reach _ _ _ _).mono ?_; rintro e' w' ⟨rfl, rfl⟩)
    | (go_at_call 27; refine (nils_sweep _ _ _ _).mono ?_; rintro e' w' ⟨rfl, rfl⟩)
    | fail)
  go_ret
  exact ⟨rfl, by (repeat (first | with_reducible exact Keeps.refl _ | with_reducible assumption | with_reducible refine Keeps.alloc ?_ _ | with_reducible refine Keeps.drewN ?_ _ | with_reducible refine Keeps.drew ?_ | refine Keeps.setCell ?_ (by dsimp only; omega) _ | with_reducible refine Keeps.trans ?_ (by assumption)))⟩

set_option maxRecDepth 100000 in
theorem storeNil_lifted (os : Os) (started : os.Started) (H : Type) (enc : TypeId × Value → H) :
    ReturnsInHanded {} Try.checked os 13 .any (Rows.storeNilSpec.pre6 enc Try.prog Try.f13 Rows.storeNilRow.domain false) (Rows.storeNilSpec.post enc Try.prog Try.f13 false true false false) := by
  refine returnsInHanded_of_change (C := Try.checked) own started (by kernel_rfl) Try.func13
    (ChangeSpec.witness6 (enc := enc) (C := Try.checked) false ⟨#[], #[.agg #[.int .u8 0, .int .u8 0, .int .u8 0, .int .u8 0, .int .u32 0, .int .u8 0, .int .u32 0], .int .u32 0, .int .i64 0], []⟩ 12 (by kernel_rfl) (by kernel_rfl) (by kernel_rfl) (by kernel_rfl)) ?_
  intro W base args ds gs before hval0 hW hcnd _
  have hval : ∀ (j : Nat) t v, Try.f13.params[j]? = some t → args[j]? = some v → Value.okWide Try.prog W .any base t v := hval0
  have hW' := hW
  obtain ⟨p, q, hA0, hV, rfl, hfz, hnd⟩ := hW
  have hA : DataW.TrodAll enc Try.prog W 0 (fun _ => true) true Try.f13.params.toList args.toList ds p := hA0
  rw [Try.params13] at hA hval
  have hAk := hA
  obtain ⟨v0, vs0, d0, ds0, p0, q0, hargs, rfl, rfl, h0, r0⟩ := trodAll_cons hA
  obtain ⟨v1, vs1, d1, ds1, p1, q1, rfl, rfl, rfl, h1, r1⟩ := trodAll_cons r0
  obtain ⟨v2, vs2, d2, ds2, p2, q2, rfl, rfl, rfl, h2, r2⟩ := trodAll_cons r1
  obtain ⟨rfl, rfl, rfl⟩ := trodAll_nil r2
  obtain rfl : args = #[v0, v1, v2] := by cases args; simp_all
  obtain ⟨rfl, rfl⟩ := trodVars_none hV
  obtain ⟨a0, w0, rfl⟩ := open_rec (hval 0 50 v0 rfl rfl) h0
  obtain ⟨a1, rfl, rfl, rfl, w1⟩ := open_int Try.underlying33 (hval 1 33 v1 rfl rfl) h1
  obtain ⟨a2, rfl, rfl, rfl, w2⟩ := open_int Try.underlying3 (hval 2 3 v2 rfl rfl) h2
  clear hA0 hval0
  refine (storeNil_walk a0 a1 a2 W w0 w1 w2).mono fun e W' ⟨he, bel⟩ => ?_
  subst he
  exact ⟨_, rfl, _, _, _, [], _, [], hW', trodAll_mk1 (shut_bool Try.underlying4 _), trodAll_below laidOut bel _ _ _ _ (by kernel_rfl) hAk, rfl, Below.frame bel _, fun h => by cases h⟩

theorem storeNil_over : Rows.storeNilRow.holds Try.pinned (OpenSpec.ofChange Rows.storeNilSpec) :=
  OpenClaim.holds_of_wide 13 Try.f13 rfl rfl rfl rfl rfl rfl rfl ⟨rfl, rfl, rfl, rfl, rfl⟩ rfl rfl rfl rfl rfl (by kernel_rfl) Try.func13 (by kernel_rfl)
    (of_decide_eq_true (by kernel_rfl)) (by unfold Func.isWrapper; first | (rw [if_pos (by decide +kernel)]; kernel_rfl) | (rw [if_neg (by decide +kernel)]; exact ⟨rfl, rfl⟩))
    (fun os started H enc _ => storeNil_lifted os started H enc)

theorem storeNil_proved : Rows.StoreNilSaid := storeNil_over

end Go.Proofs.Ytacanmmkhbdmlaa
