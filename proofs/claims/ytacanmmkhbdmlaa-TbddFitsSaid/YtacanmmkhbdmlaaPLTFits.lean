/-
  Proved: the statement TbddFits, for every input.
-/
import Derived.Test.YtacanmmkhbdmlaaPFMade
import Derived.Test.YtacanmmkhbdmlaaPFitsC
import Derived.Test.YtacanmmkhbdmlaaPLawBase
import Derived.Test.YtacanmmkhbdmlaaPTAlive
import Derived.Test.YtacanmmkhbdmlaaPTermA
import Derived.Test.YtacanmmkhbdmlaaPUnfA
import Derived.Test.YtacanmmkhbdmlaaRows
namespace Go.Proofs.Ytacanmmkhbdmlaa
set_option linter.unusedSimpArgs false
set_option linter.unusedVariables false
set_option maxHeartbeats 600000
open Go.ChangeShapes Go.WideShapes Go.ChangeAt Go.RowKit


set_option maxRecDepth 100000 in
theorem tbddFits_out (n room a : Int) (w : World) (h : n < 0 ∨ 6 < n ∨ room < 0 ∨ 70 < room) :
    Calls Try.prog 3 #[.int .i64 n, .int .i64 room, .int .u64 a] w fun e w' => e = .returned (.bool true) ∧ Keeps w w' := by
  have H := Lib.hid h
  clear h
  go_enter Try.func3, Try.ntmps3
  go_wp2_with (first | (go_at_call 14; refine (t_alive _).mono ?_; rintro e w1 ⟨rfl, hk⟩) | fail)
  all_goals first | (go_ret; exact ⟨rfl, by (repeat (first | with_reducible exact Keeps.refl _ | with_reducible assumption | with_reducible refine Keeps.alloc ?_ _ | with_reducible refine Keeps.drewN ?_ _ | with_reducible refine Keeps.drew ?_ | refine Keeps.setCell ?_ (by dsimp only; omega) _ | with_reducible refine Keeps.trans ?_ (by assumption)))⟩) | (exfalso; have := H.out; omega)

theorem ttabF {w : World} {B : Nat} {bs : List Bool} (h : BoolsAt w B bs) : TabAt w B 0 bs := fun i b hb => by
  rw [Nat.zero_add]
  exact h.cell hb

set_option maxRecDepth 100000 in
set_option maxHeartbeats 1000000 in
theorem tbddFits_in (k : Nat) (room a : Int) (w : World) (h : k ≤ 6) (hr0 : 0 ≤ room) (hr1 : room ≤ 70) (ha : 0 ≤ a) (ha2 : a ≤ 18446744073709551615) :
    Calls Try.prog 3 #[.int .i64 (k : Int), .int .i64 room, .int .u64 a] w fun e w' => e = .returned (.bool true) ∧ Keeps w w' := by
  have h6 : 2 ^ k ≤ 2 ^ 6 := Nat.pow_le_pow_right (by decide) h
  have e6 : (2 : Nat) ^ 6 = 64 := rfl
  rw [e6] at h6
  have H6 := Lib.hid h6
  have hpos := Lib.hid (Nat.pow_pos (n := k) (show 0 < 2 by decide))
  clear h6 e6
  go_enter Try.func3, Try.ntmps3
  go_wp2_with (first | (go_at_call 14; refine (t_alive _).mono ?_; rintro e w1 ⟨rfl, hk⟩) | fail)
  refine (store_new (k : Int) room _ (by omega) (by omega) (by omega) (by omega)).mono ?_
  rintro e w2 ⟨sb, F, rfl, hk2, hF, hS⟩
  have HS := Lib.hid hS
  have HF := Lib.hid hF
  have z1 := hk.size
  have HK2 := Lib.hid (hk.trans hk2)
  clear hS hF hk2 hk
  go_wp2_with fail
  refine (bits_calls k (by omega) a ha ha2 _).mono ?_
  rintro e w3 ⟨bs, hbl, rfl, hB, hk3⟩
  have HB := Lib.hid hB
  have HK3 := Lib.hid hk3
  have HBL := Lib.hid hbl
  have nFB : ¬ F w2.heap.size := fun hf => by have := HS.out.lt _ hf; omega
  have hT1 := termT_calls (k + 1) (by omega) k (by omega) (by omega) 0 (2 ^ k) bs 0 w3 (ttabF hB) hbl (Nat.le_refl _) (by have := H6.out; omega) (by omega) (by omega)
  obtain ⟨t1, ht1⟩ : ∃ t1, t1 = termT (k + 1) k bs 0 := ⟨_, rfl⟩
  have hts : t1.size ≤ 1048576 := by
    have q1 := termT_size (k + 1) k bs 0
    rw [← ht1] at q1
    have q2 : 2 ^ (k + 1) ≤ 2 ^ 7 := Nat.pow_le_pow_right (by decide) (by omega)
    have q3 : (2 : Nat) ^ 7 = 128 := rfl
    omega
  rw [← ht1] at hT1
  have HT1 := Lib.hid hT1
  have HPT := Lib.hid (fun (W : World) => parts_calls t1 W hts)
  have HTE := Lib.hid ht1
  clear hT1 ht1 hts hB hk3 hbl
  go_wp2_with fail
  refine HT1.out.mono ?_
  rintro e w4 ⟨rfl, hk4⟩
  go_wp2_with fail
  refine (HPT.out _).mono ?_
  rintro e w5 ⟨pa, pcap, rfl, hk5⟩
  have hk35 := hk4.trans hk5
  have hB5 : BoolsAt w5 w2.heap.size bs := HB.out.keep (Keeps.upd hk35 (fun _ => False)) (fun h => h)
  have hmade := fmade_calls k (by omega) 0 (2 ^ k) 0 F w5 (St.new (k : Int) room) ((HS.out.keeps HK3.out).keeps hk35) hB5 nFB (by omega) (Nat.le_refl _) (by have := H6.out; omega) (by rw [HBL.out]; omega) (by simp [St.new]) (by have := H6.out; simp [St.new, St.len]; omega)
  have HMD := Lib.hid hmade
  have HK5 := Lib.hid ((HK2.out.trans HK3.out).trans hk35)
  clear hmade hk4 hk5 hk35 hB5 HT1 HPT
  go_wp2_with fail
  refine HMD.out.mono ?_
  rintro e w6 ⟨x, ok, M, rfl, hx, hfit, hst⟩
  obtain ⟨⟨F6, r6, sub6⟩, u6⟩ := hst
  have hK6 : Keeps w w6 := HK5.out.new u6 (fun j hj => by have := HF.out j hj; have := HK2.out.size; omega)
  have hMr : M.room = room := hfit.grown.room
  have hMn : M.n = (k : Int) := hfit.grown.ext.n
  have hpk := hfit.pack (packed_new _ _)
  have hlen := fun (W : World) (hW : Keeps w6 W) => store_len (r6.keeps hW)
  obtain ⟨pl, hpl⟩ : ∃ pl, pl = (partsTo t1 t1.size).length := ⟨_, rfl⟩
  rw [← hpl]
  have HK6 := Lib.hid hK6
  cases ok with
  | false =>
    obtain ⟨q1, N, e', q2, q3, q4, q5, q6, q7, q8, q9⟩ := hfit.full rfl
    obtain ⟨_, c2⟩ := fits_count h HBL.out q3 q2 (q9 (packed_new _ _)) q4 q5
    rw [← HTE.out, ← hpl] at c2
    have hgt : room < (pl : Int) := by rw [c2]; exact q6
    have hMl : M.len = room := q1.trans hMr
    rw [hMl] at hlen
    have HLEN := Lib.hid hlen
    clear hfit r6 sub6 u6 hK6 hMr hMn hpk hlen hpl q1 q2 q3 q4 q5 q6 q7 q8 q9 c2 hMl HMD HS HF HB
    go_wp2_with (first
      | (go_at_call 20; refine (HLEN.out _ (by (repeat (first | with_reducible exact Keeps.refl _ | with_reducible assumption | with_reducible refine Keeps.alloc ?_ _ | with_reducible refine Keeps.drewN ?_ _ | with_reducible refine Keeps.drew ?_ | refine Keeps.setCell ?_ (by dsimp only; omega) _ | with_reducible refine Keeps.trans ?_ (by assumption))))).mono ?_; rintro e w7 ⟨rfl, rfl⟩)
      | fail)
    go_ret
    exact ⟨rfl, by have hk6 := HK6.out; (repeat (first | with_reducible exact Keeps.refl _ | with_reducible assumption | with_reducible refine Keeps.alloc ?_ _ | with_reducible refine Keeps.drewN ?_ _ | with_reducible refine Keeps.drew ?_ | refine Keeps.setCell ?_ (by dsimp only; omega) _ | with_reducible refine Keeps.trans ?_ (by assumption)))⟩
  | true =>
    obtain ⟨m1, f1⟩ := hfit.good rfl
    obtain ⟨c1, c2⟩ := fits_count h HBL.out r6.wf hfit.grown.ext hpk m1 f1
    rw [← HTE.out] at c1
    rw [← HTE.out, ← hpl] at c2
    have hle : (pl : Int) ≤ room := by rw [c2, ← hMr]; exact r6.wf.full
    rw [← c2] at hlen
    have hrt := m1.right r6.wf (.inr (.inr rfl)) (by rw [hMn]; omega)
    have hU := fun (W : World) (hW : Keeps w6 W) => unfT_calls r6 (by omega) (k + 1) (by omega) x W hW hx (lead_tag (right_iff.1 hrt).1 (by omega))
    rw [c1, show ((k + 1 : Nat) : Int) - 1 = (k : Int) by omega] at hU
    have HLEN := Lib.hid hlen
    have HU := Lib.hid hU
    clear hfit r6 sub6 u6 hK6 hMr hMn hpk hlen hpl m1 f1 c1 c2 hrt hU HMD HS HF HB
    go_wp2_with fail
    refine (HLEN.out _ ((Keeps.refl _).alloc _)).mono ?_
    rintro e w7 ⟨rfl, rfl⟩
    go_wp2_with fail
    refine (HU.out _ ((Keeps.refl _).alloc _)).mono ?_
    rintro e w8 ⟨rfl, hk8⟩
    have HEND := Lib.hid (HK6.out.trans (((Keeps.refl _).alloc _).trans hk8))
    clear hk8
    go_wp2
    go_ret
    exact ⟨rfl, HEND.out⟩

theorem tbddFits_walk (n room a : Int) (w : World) (_ : (Lit.int .i64 n).wf = true) (_ : (Lit.int .i64 room).wf = true) (ha : (Lit.int .u64 a).wf = true) :
    Calls Try.prog 3 #[.int .i64 n, .int .i64 room, .int .u64 a] w fun e w' => e = .returned (.bool true) ∧ Keeps w w' := by
  by_cases h : n < 0 ∨ 6 < n ∨ room < 0 ∨ 70 < room
  · exact tbddFits_out n room a w h
  · have hmin : IntKind.u64.min = 0 := rfl
    have hmax : IntKind.u64.max = 18446744073709551615 := rfl
    simp only [Lit.wf, Bool.and_eq_true, decide_eq_true_eq, hmin, hmax] at ha
    obtain ⟨k, rfl⟩ : ∃ k : Nat, n = (k : Int) := ⟨n.toNat, by omega⟩
    exact tbddFits_in k room a w (by omega) (by omega) (by omega) ha.1 ha.2

set_option maxRecDepth 100000 in
theorem tbddFits_lifted (os : Os) (started : os.Started) (H : Type) (enc : TypeId × Value → H) :
    ReturnsInHanded {} Try.checked os 3 .any (Rows.tbddFitsSpec.pre6 enc Try.prog Try.f3 Rows.tbddFitsRow.domain false) (Rows.tbddFitsSpec.post enc Try.prog Try.f3 false true false false) := by
  refine returnsInHanded_of_change (C := Try.checked) own started (by kernel_rfl) Try.func3
    (ChangeSpec.witness6 (enc := enc) (C := Try.checked) false ⟨#[], #[.int .i64 0, .int .i64 0, .int .u64 0], []⟩ 12 (by kernel_rfl) (by kernel_rfl) (by kernel_rfl) (by kernel_rfl)) ?_
  intro W base args ds gs before hval0 hW hcnd _
  have hval : ∀ (j : Nat) t v, Try.f3.params[j]? = some t → args[j]? = some v → Value.okWide Try.prog W .any base t v := hval0
  have hW' := hW
  obtain ⟨p, q, hA0, hV, rfl, hfz, hnd⟩ := hW
  have hA : DataW.TrodAll enc Try.prog W 0 (fun _ => true) true Try.f3.params.toList args.toList ds p := hA0
  rw [Try.params3] at hA hval
  have hAk := hA
  obtain ⟨v0, vs0, d0, ds0, p0, q0, hargs, rfl, rfl, h0, r0⟩ := trodAll_cons hA
  obtain ⟨v1, vs1, d1, ds1, p1, q1, rfl, rfl, rfl, h1, r1⟩ := trodAll_cons r0
  obtain ⟨v2, vs2, d2, ds2, p2, q2, rfl, rfl, rfl, h2, r2⟩ := trodAll_cons r1
  obtain ⟨rfl, rfl, rfl⟩ := trodAll_nil r2
  obtain rfl : args = #[v0, v1, v2] := by cases args; simp_all
  obtain ⟨rfl, rfl⟩ := trodVars_none hV
  obtain ⟨a0, rfl, rfl, rfl, w0⟩ := open_int Try.underlying3 (hval 0 3 v0 rfl rfl) h0
  obtain ⟨a1, rfl, rfl, rfl, w1⟩ := open_int Try.underlying3 (hval 1 3 v1 rfl rfl) h1
  obtain ⟨a2, rfl, rfl, rfl, w2⟩ := open_int Try.underlying22 (hval 2 22 v2 rfl rfl) h2
  clear hA0 hval0
  refine (tbddFits_walk a0 a1 a2 W w0 w1 w2).mono fun e W' ⟨he, bel⟩ => ?_
  subst he
  exact ⟨_, rfl, _, _, _, [], _, [], hW', trodAll_mk1 (shut_bool Try.underlying4 _), trodAll_below laidOut bel _ _ _ _ (by kernel_rfl) hAk, rfl, Below.frame bel _, fun h => by cases h⟩

theorem tbddFits_over : Rows.tbddFitsRow.holds Try.pinned (OpenSpec.ofChange Rows.tbddFitsSpec) :=
  OpenClaim.holds_of_wide 3 Try.f3 rfl rfl rfl rfl rfl rfl rfl ⟨rfl, rfl, rfl, rfl, rfl⟩ rfl rfl rfl rfl rfl (by kernel_rfl) Try.func3 (by kernel_rfl)
    (of_decide_eq_true (by kernel_rfl)) (by unfold Func.isWrapper; first | (rw [if_pos (by decide +kernel)]; kernel_rfl) | (rw [if_neg (by decide +kernel)]; exact ⟨rfl, rfl⟩))
    (fun os started H enc _ => tbddFits_lifted os started H enc)

theorem tbddFits_proved : Rows.TbddFitsSaid := tbddFits_over

end Go.Proofs.Ytacanmmkhbdmlaa
