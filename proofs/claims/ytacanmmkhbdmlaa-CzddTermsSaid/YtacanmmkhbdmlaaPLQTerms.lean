/-
  Proved: the statement CzddTerms, for every input (printed by wip/mk_tlaw.py).
-/
import Derived.Test.YtacanmmkhbdmlaaPHMadeQ
import Derived.Test.YtacanmmkhbdmlaaPLawBase
import Derived.Test.YtacanmmkhbdmlaaPQAlive
import Derived.Test.YtacanmmkhbdmlaaPRightQ
import Derived.Test.YtacanmmkhbdmlaaPTermQ
import Derived.Test.YtacanmmkhbdmlaaPTwo4
import Derived.Test.YtacanmmkhbdmlaaPUnfQ
import Derived.Test.YtacanmmkhbdmlaaRows
namespace Go.Proofs.Ytacanmmkhbdmlaa
set_option linter.unusedSimpArgs false
set_option linter.unusedVariables false
set_option maxHeartbeats 600000
open Go.ChangeShapes Go.WideShapes Go.ChangeAt Go.RowKit


set_option maxRecDepth 100000 in
theorem czddTerms_out (n a b : Int) (w : World) (h : n < 0 ∨ 6 < n) :
    Calls Try.prog 9 #[.int .i64 n, .int .u64 a, .int .u64 b] w fun e w' => e = .returned (.bool true) ∧ Keeps w w' := by
  have H := Lib.hid h
  clear h
  go_enter Try.func9, Try.ntmps9
  go_wp2_with (first | (go_at_call 25; refine (q_alive _).mono ?_; rintro e w1 ⟨rfl, hk⟩) | fail)
  all_goals first | (go_ret; exact ⟨rfl, by (repeat (first | with_reducible exact Keeps.refl _ | with_reducible assumption | with_reducible refine Keeps.alloc ?_ _ | with_reducible refine Keeps.drewN ?_ _ | with_reducible refine Keeps.drew ?_ | refine Keeps.setCell ?_ (by dsimp only; omega) _ | with_reducible refine Keeps.trans ?_ (by assumption)))⟩) | (exfalso; have := H.out; omega)

theorem qtab {w : World} {B : Nat} {bs : List Bool} (h : BoolsAt w B bs) : TabAt w B 0 bs := fun i b hb => by
  rw [Nat.zero_add]
  exact h.cell hb

/-- What two tables that were made, one behind the other, are good for. -/
structure PairQ (F : Nat → Prop) (w : World) (sb k : Nat) (bs cs : List Bool) (x y : Edge) : Prop where
  right1 : ∀ W, Keeps w W → Calls Try.prog 40 #[.pointer (some ⟨sb, 0, none⟩), .agg #[.int .u8 x.tag, .int .u32 x.to], .int .i64 0] W fun r w' => r = .returned (.bool true) ∧ Keeps W w'
  right2 : ∀ W, Keeps w W → Calls Try.prog 40 #[.pointer (some ⟨sb, 0, none⟩), .agg #[.int .u8 y.tag, .int .u32 y.to], .int .i64 0] W fun r w' => r = .returned (.bool true) ∧ Keeps W w'
  same : decide (x = y) = sameL bs cs
  unf1 : ∀ W, Keeps w W → Calls Try.prog 29 #[.pointer (some ⟨sb, 0, none⟩), .agg #[.int .u8 x.tag, .int .u32 x.to], .int .i64 (k : Int)] W fun r w' => r = .returned (.string (termQ (k + 1) k bs 0)) ∧ Keeps W w'
  unf2 : ∀ W, Keeps w W → Calls Try.prog 29 #[.pointer (some ⟨sb, 0, none⟩), .agg #[.int .u8 y.tag, .int .u32 y.to], .int .i64 (k : Int)] W fun r w' => r = .returned (.string (termQ (k + 1) k cs 0)) ∧ Keeps W w'

theorem qpair {F : Nat → Prop} {w : World} {sb k : Nat} {M : St} {bs cs : List Bool} {x y : Edge} (r6 : StoreRep F w sb M) (hk6 : k ≤ 6) (hnk : (0 : Int) + (k : Nat) = M.n) (hx : x.ok) (hy : y.ok) (h1 : bs.length = 2 ^ k) (h2 : cs.length = 2 ^ k)
    (hm1 : IsMade 4 M bs k 0 0 x) (hm2 : IsMade 4 M cs k 0 0 y) : PairQ F w sb k bs cs x y := by
  have hn9 : M.n ≤ 9 := by omega
  have t1 := IsMade.table (.inr (.inl rfl)) _ _ _ _ hm1
  have t2 := IsMade.table (.inr (.inl rfl)) _ _ _ _ hm2
  rw [List.drop_zero, List.take_of_length_le (by omega)] at t1 t2
  have g1 := hm1.right r6.wf (.inr (.inl rfl)) hnk
  have g2 := hm2.right r6.wf (.inr (.inl rfl)) hnk
  have e1 : ((k + 1 : Nat) : Int) - 1 = (k : Int) := by omega
  refine ⟨fun W hW => ?_, fun W hW => ?_, ?_, fun W hW => ?_, fun W hW => ?_⟩
  · have := czdd_right (r6.keeps hW) x 0 hx
    rwa [g1] at this
  · have := czdd_right (r6.keeps hW) y 0 hy
    rwa [g2] at this
  · by_cases hxy : x = y
    · subst hxy
      rw [sameL_iff.2 (IsT.inj r6.wf _ _ _ _ _ t1 t2)]
      exact decide_eq_true rfl
    · rw [decide_eq_false hxy]
      exact (sameL_false.2 (fun hh => hxy (by subst hh; exact IsT.det r6.wf _ _ _ _ _ t1 t2))).symm
  · have := unfQ_calls r6 hn9 (k + 1) (by omega) x W hW hx
    rw [e1, two4 r6.wf k _ 0 _ (t1) hnk k k (Nat.le_refl _) (Nat.le_refl _)] at this
    exact this
  · have := unfQ_calls r6 hn9 (k + 1) (by omega) y W hW hy
    rw [e1, two4 r6.wf k _ 0 _ (t2) hnk k k (Nat.le_refl _) (Nat.le_refl _)] at this
    exact this

set_option maxRecDepth 100000 in
theorem czddTerms_in (k : Nat) (a b : Int) (w : World) (h : k ≤ 6) (ha : 0 ≤ a) (ha2 : a ≤ 18446744073709551615) (hb : 0 ≤ b) (hb2 : b ≤ 18446744073709551615) :
    Calls Try.prog 9 #[.int .i64 (k : Int), .int .u64 a, .int .u64 b] w fun e w' => e = .returned (.bool true) ∧ Keeps w w' := by
  have h6 : 2 ^ k ≤ 2 ^ 6 := Nat.pow_le_pow_right (by decide) h
  have e6 : (2 : Nat) ^ 6 = 64 := rfl
  rw [e6] at h6
  have H6 := Lib.hid h6
  have hpos := Lib.hid (Nat.pow_pos (n := k) (show 0 < 2 by decide))
  clear h6 e6
  go_enter Try.func9, Try.ntmps9
  go_wp2_with (first | (go_at_call 25; refine (q_alive _).mono ?_; rintro e w1 ⟨rfl, hk⟩) | fail)
  refine (store_new (k : Int) 400 _ (by omega) (by omega) (by omega) (by omega)).mono ?_
  rintro e w2 ⟨sb, F, rfl, hk2, hF, hS⟩
  have HS := Lib.hid hS
  have HF := Lib.hid hF
  have z1 := hk.size
  have HK2 := Lib.hid (hk.trans hk2)
  clear hS hF hk2 hk
  go_wp2_with fail
  refine (bits_calls k (by omega) a ha ha2 _).mono ?_
  rintro e w3 ⟨bs, hbl, rfl, hB, hk3⟩
  have HB := Lib.hid hB
  have HK3 := Lib.hid hk3
  have HBL := Lib.hid hbl
  clear hB hk3 hbl
  go_wp2_with fail
  refine (bits_calls k (by omega) b hb hb2 _).mono ?_
  rintro e w4 ⟨cs, hcl, rfl, hC, hk4⟩
  have HC := Lib.hid hC
  have HK4 := Lib.hid hk4
  have HCL := Lib.hid hcl
  clear hC hk4 hcl
  have nFB : ¬ F w2.heap.size := fun hf => by have := HS.out.lt _ hf; omega
  have nFC : ¬ F w3.heap.size := fun hf => by have := HS.out.lt _ hf; have := HK3.out.size; omega
  have hB4 : BoolsAt w4 w2.heap.size bs := HB.out.keep (Keeps.upd HK4.out (fun _ => False)) (fun h => h)
  have hmade := qmade_calls k (by omega) 0 (2 ^ k) 0 F w4 (St.new (k : Int) 400) ((HS.out.keeps HK3.out).keeps HK4.out) hB4 nFB (by omega) (Nat.le_refl _) (by have := H6.out; omega) (by rw [HBL.out]; omega) (by simp [St.new]) (by have := H6.out; simp [St.new, St.len]; omega)
  have HMD := Lib.hid hmade
  clear hmade
  go_wp2_with fail
  refine HMD.out.mono ?_
  rintro e w5 ⟨x, M1, rfl, hx, hm1, hg1, hst1⟩
  have HST1 := Lib.hid hst1
  have hst' := hst1
  obtain ⟨⟨F5, r5, sub5⟩, u5⟩ := hst'
  have nF5B : ¬ F5 w2.heap.size := fun hf => by
    rcases sub5 _ hf with q | q
    · exact nFB q
    · have := hB4.lt; omega
  have nF5C : ¬ F5 w3.heap.size := fun hf => by
    rcases sub5 _ hf with q | q
    · exact nFC q
    · have := HC.out.lt; omega
  have hC5 : BoolsAt w5 w3.heap.size cs := HC.out.keep u5 nFC
  have hn1 : (0 : Int) + (k : Nat) = M1.n := by rw [hg1.ext.n]; simp [St.new]
  have hg1l := hg1.len
  have hg1r := hg1.room
  simp only [St.new, St.len, List.length_nil] at hg1l hg1r
  have hmade2 := fun (W : World) (hW : Keeps w5 W) => qmade_calls k (by omega) 0 (2 ^ k) 0 F5 W M1 (r5.keeps hW) (hC5.keep (Keeps.upd hW (fun _ => False)) (fun h => h)) nF5C (by omega) (Nat.le_refl _) (by have := H6.out; omega) (by rw [HCL.out]; omega) hn1 (by have := H6.out; unfold St.len; omega)
  have HMD2 := Lib.hid hmade2
  have HR5 := Lib.hid r5
  have HX := Lib.hid hx
  have HM1 := Lib.hid hm1
  have HG1 := Lib.hid hg1
  have SUB5 := Lib.hid sub5
  have HU5 := Lib.hid u5
  clear hmade2 r5 hx hm1 hg1 sub5 u5 hg1l hg1r hst1 hC5 hB4
  go_wp2_with fail
  refine (HMD2.out _ (by (repeat (first | with_reducible exact Keeps.refl _ | with_reducible assumption | with_reducible refine Keeps.alloc ?_ _ | with_reducible refine Keeps.drewN ?_ _ | with_reducible refine Keeps.drew ?_ | refine Keeps.setCell ?_ (by dsimp only; omega) _ | with_reducible refine Keeps.trans ?_ (by assumption))))).mono ?_
  rintro e w6 ⟨y, M2, rfl, hy, hm2, hg2, hst2⟩
  have nF5n : ¬ F5 w5.heap.size := fun hf => by have := HR5.out.lt _ hf; omega
  have x0 := hst2.cell nF5n (o := 0) (v := .int .u8 x.tag) (by simp)
  have x1 := hst2.cell nF5n (o := 1) (v := .int .u32 x.to) (by simp)
  have zx := hst2.upd.size
  simp only [World.size_alloc] at zx
  obtain ⟨⟨F6, r6, sub6⟩, u6⟩ := hst2
  have hm1' := IsMade.ext hg2.ext HR5.out.wf (.inr (.inl rfl)) _ _ _ _ HM1.out
  have hP := qpair r6 h (by rw [hg2.ext.n]; exact hn1) HX.out hy HBL.out HCL.out hm1' hm2
  have HP := Lib.hid hP
  have HU6 := Lib.hid u6
  clear hm1' hm2 hg2 r6 sub6 u6 hP hn1 hy
  have e4 := HK4.out.size
  have e3 := HK3.out.size
  have hu6 : Upd F w4 w6 := (HU5.out.trans' (Keeps.upd ((Keeps.refl _).alloc _) F)).trans (HU6.out.mono (fun j hj hf => by
    rcases SUB5.out j hf with q | q
    · exact .inl q
    · exact .inr ⟨by omega, hj⟩))
  have hK6 : Keeps w w6 := by
    refine (((HK2.out.trans HK3.out).trans HK4.out)).new hu6 (fun j hj => ?_)
    have := HF.out j hj
    omega
  have HK6 := Lib.hid hK6
  have HTB := Lib.hid (qtab ((HB.out.keep (Keeps.upd HK4.out (fun _ => False)) (fun h => h)).keep hu6 nFB))
  have HTC := Lib.hid (qtab (HC.out.keep hu6 nFC))
  have z6 := hu6.size
  clear hu6 hK6 HST1 HMD HMD2 HR5 HX HM1 HG1 HU5 HU6 SUB5 HS HF nFB nFC nF5B nF5C
  go_wp2_with fail
  have W0 : ∃ W0, W0 = w6.alloc (.cells #[.int .u8 y.tag, .int .u32 y.to] 35) := ⟨_, rfl⟩
  obtain ⟨W0, hW0⟩ := W0
  have hk0 : Keeps w6 W0 := by rw [hW0]; exact (Keeps.refl _).alloc _
  have k0 := KWorld.cell (W0 := W0) (a := ⟨w5.heap.size, 0, none⟩) (v := .int .u8 x.tag) (hk0.cell x0)
  have k1 := KWorld.cell (W0 := W0) (a := ⟨w5.heap.size, 1, none⟩) (v := .int .u32 x.to) (hk0.cell x1)
  have k2 := KWorld.cell (W0 := W0) (a := ⟨w6.heap.size, 0, none⟩) (v := .int .u8 y.tag) (by rw [hW0]; simp)
  have k3 := KWorld.cell (W0 := W0) (a := ⟨w6.heap.size, 1, none⟩) (v := .int .u32 y.to) (by rw [hW0]; simp)
  have HRR := Lib.hid (fun (e : Edge) (W : World) (hW : Keeps W0 W) (he : e = x ∨ e = y) => show Calls Try.prog 40 #[.pointer (some ⟨sb, 0, none⟩), .agg #[.int .u8 e.tag, .int .u32 e.to], .int .i64 0] W (fun r w' => r = .returned (.bool true) ∧ Keeps W w') by
    rcases he with rfl | rfl
    · exact HP.out.right1 W (hk0.trans hW)
    · exact HP.out.right2 W (hk0.trans hW))
  have hSM := fun (W : World) (hW : Keeps W0 W) => same_calls (2 ^ k) (2 ^ k) W (HTB.out.keeps (hk0.trans hW)) (HTC.out.keeps (hk0.trans hW)) (by rw [HBL.out]; have := H6.out; omega) (by rw [HCL.out]; have := H6.out; omega)
  rw [← HP.out.same, HBL.out, HCL.out] at hSM
  have HSM := Lib.hid hSM
  have heq : ∀ (W : World), (binOp .eql 35 (.agg #[.int .u8 x.tag, .int .u32 x.to]) (.agg #[.int .u8 y.tag, .int .u32 y.to])).run Try.prog W = .ok (.bool (decide (x = y))) W := fun W => by
    by_cases hxy : x = y
    · rw [decide_eq_true hxy]; exact eql_same x y hxy W
    · rw [decide_eq_false hxy]; exact eql_other x y hxy W
  obtain ⟨bb, hbb⟩ : ∃ bb, bb = decide (x = y) := ⟨_, rfl⟩
  rw [← hbb] at heq
  rw [← hbb] at HSM
  clear hSM hbb
  rw [← hW0]
  refine wp_region_keeps W0 (by kernel_rfl) (by kernel_rfl) (Keeps.refl _) ?_
  (repeat (go_big_quiet_step ((first | (go_at_call 40; with_reducible refine Calls.keepsK (HRR.out _ _ (KWorld.keep _) (by first | exact .inl rfl | exact .inr rfl))) | (go_at_call 36; with_reducible refine Calls.keepsK (HSM.out _ (KWorld.keep _)))))))
  refine wpQuiet_nil ?_
  rintro wq ⟨⟨_, hkq⟩, rfl⟩
  try dsimp only
  have hkq' := hk0.trans hkq
  have u0 := hkq.cell (hk0.cell x0)
  have u1 := hkq.cell (hk0.cell x1)
  have u2 := hkq.cell (show W0.cell? ⟨w6.heap.size, 0, none⟩ = some (.int .u8 y.tag) by rw [hW0]; simp)
  have u3 := hkq.cell (show W0.cell? ⟨w6.heap.size, 1, none⟩ = some (.int .u32 y.to) by rw [hW0]; simp)
  have hne : (bb != bb) = false := by cases bb <;> rfl
  have hT1 := fun (W : World) (hW : Keeps w6 W) => termQ_calls (k + 1) (by omega) k (by omega) (by omega) 0 (2 ^ k) bs 0 W (HTB.out.keeps hW) HBL.out (Nat.le_refl _) (by have := H6.out; omega) (by omega) (by omega)
  have hT2 := fun (W : World) (hW : Keeps w6 W) => termQ_calls (k + 1) (by omega) k (by omega) (by omega) 0 (2 ^ k) cs 0 W (HTC.out.keeps hW) HCL.out (Nat.le_refl _) (by have := H6.out; omega) (by omega) (by omega)
  have hU1 := HP.out.unf1
  have hU2 := HP.out.unf2
  obtain ⟨t1, ht1⟩ : ∃ t1, t1 = termQ (k + 1) k bs 0 := ⟨_, rfl⟩
  obtain ⟨t2, ht2⟩ : ∃ t2, t2 = termQ (k + 1) k cs 0 := ⟨_, rfl⟩
  rw [← ht1] at hT1 hU1
  rw [← ht2] at hT2 hU2
  have HT1 := Lib.hid hT1
  have HT2 := Lib.hid hT2
  have HU1 := Lib.hid hU1
  have HU2 := Lib.hid hU2
  have HKQ := Lib.hid hkq'
  clear hT1 hT2 hU1 hU2 ht1 ht2 hkq hkq' k0 k1 k2 k3 heq HRR HSM HP
  go_wp2_with fail
  refine (HU1.out _ HKQ.out).mono ?_
  rintro e v1 ⟨rfl, hv1⟩
  have hw1 : Keeps w6 v1 := HKQ.out.trans hv1
  have u2 := hv1.cell u2
  have u3 := hv1.cell u3
  go_wp2_with fail
  refine (HT1.out _ hw1).mono ?_
  rintro e v2 ⟨rfl, hv2⟩
  have hw2 : Keeps w6 v2 := hw1.trans hv2
  have u2 := hv2.cell u2
  have u3 := hv2.cell u3
  go_wp2_with fail
  refine (HU2.out _ hw2).mono ?_
  rintro e v3 ⟨rfl, hv3⟩
  have hw3 : Keeps w6 v3 := hw2.trans hv3
  go_wp2_with fail
  refine (HT2.out _ hw3).mono ?_
  rintro e v4 ⟨rfl, hv4⟩
  have hw4 : Keeps w6 v4 := hw3.trans hv4
  go_wp2_with fail
  go_ret
  exact ⟨rfl, HK6.out.trans hw4⟩

theorem czddTerms_walk (n a b : Int) (w : World) (_ : (Lit.int .i64 n).wf = true) (ha : (Lit.int .u64 a).wf = true) (hb : (Lit.int .u64 b).wf = true) :
    Calls Try.prog 9 #[.int .i64 n, .int .u64 a, .int .u64 b] w fun e w' => e = .returned (.bool true) ∧ Keeps w w' := by
  by_cases h : n < 0 ∨ 6 < n
  · exact czddTerms_out n a b w h
  · obtain ⟨k, rfl⟩ : ∃ k : Nat, n = (k : Int) := ⟨n.toNat, by omega⟩
    have hmin : IntKind.u64.min = 0 := rfl
    have hmax : IntKind.u64.max = 18446744073709551615 := rfl
    simp only [Lit.wf, Bool.and_eq_true, decide_eq_true_eq, hmin, hmax] at ha hb
    exact czddTerms_in k a b w (by omega) ha.1 ha.2 hb.1 hb.2

set_option maxRecDepth 100000 in
theorem czddTerms_lifted (os : Os) (started : os.Started) (H : Type) (enc : TypeId × Value → H) :
    ReturnsInHanded {} Try.checked os 9 .any (Rows.czddTermsSpec.pre6 enc Try.prog Try.f9 Rows.czddTermsRow.domain false) (Rows.czddTermsSpec.post enc Try.prog Try.f9 false true false false) := by
  refine returnsInHanded_of_change (C := Try.checked) own started (by kernel_rfl) Try.func9
    (ChangeSpec.witness6 (enc := enc) (C := Try.checked) false ⟨#[], #[.int .i64 0, .int .u64 0, .int .u64 0], []⟩ 12 (by kernel_rfl) (by kernel_rfl) (by kernel_rfl) (by kernel_rfl)) ?_
  intro W base args ds gs before hval0 hW hcnd _
  have hval : ∀ (j : Nat) t v, Try.f9.params[j]? = some t → args[j]? = some v → Value.okWide Try.prog W .any base t v := hval0
  have hW' := hW
  obtain ⟨p, q, hA0, hV, rfl, hfz, hnd⟩ := hW
  have hA : DataW.TrodAll enc Try.prog W 0 (fun _ => true) true Try.f9.params.toList args.toList ds p := hA0
  rw [Try.params9] at hA hval
  have hAk := hA
  obtain ⟨v0, vs0, d0, ds0, p0, q0, hargs, rfl, rfl, h0, r0⟩ := trodAll_cons hA
  obtain ⟨v1, vs1, d1, ds1, p1, q1, rfl, rfl, rfl, h1, r1⟩ := trodAll_cons r0
  obtain ⟨v2, vs2, d2, ds2, p2, q2, rfl, rfl, rfl, h2, r2⟩ := trodAll_cons r1
  obtain ⟨rfl, rfl, rfl⟩ := trodAll_nil r2
  obtain rfl : args = #[v0, v1, v2] := by cases args; simp_all
  obtain ⟨rfl, rfl⟩ := trodVars_none hV
  obtain ⟨a0, rfl, rfl, rfl, w0⟩ := open_int Try.underlying3 (hval 0 3 v0 rfl rfl) h0
  obtain ⟨a1, rfl, rfl, rfl, w1⟩ := open_int Try.underlying22 (hval 1 22 v1 rfl rfl) h1
  obtain ⟨a2, rfl, rfl, rfl, w2⟩ := open_int Try.underlying22 (hval 2 22 v2 rfl rfl) h2
  clear hA0 hval0
  refine (czddTerms_walk a0 a1 a2 W w0 w1 w2).mono fun e W' ⟨he, bel⟩ => ?_
  subst he
  exact ⟨_, rfl, _, _, _, [], _, [], hW', trodAll_mk1 (shut_bool Try.underlying4 _), trodAll_below laidOut bel _ _ _ _ (by kernel_rfl) hAk, rfl, Below.frame bel _, fun h => by cases h⟩

theorem czddTerms_over : Rows.czddTermsRow.holds Try.pinned (OpenSpec.ofChange Rows.czddTermsSpec) :=
  OpenClaim.holds_of_wide 9 Try.f9 rfl rfl rfl rfl rfl rfl rfl ⟨rfl, rfl, rfl, rfl, rfl⟩ rfl rfl rfl rfl rfl (by kernel_rfl) Try.func9 (by kernel_rfl)
    (of_decide_eq_true (by kernel_rfl)) (by unfold Func.isWrapper; first | (rw [if_pos (by decide +kernel)]; kernel_rfl) | (rw [if_neg (by decide +kernel)]; exact ⟨rfl, rfl⟩))
    (fun os started H enc _ => czddTerms_lifted os started H enc)

theorem czddTerms_proved : Rows.CzddTermsSaid := czddTerms_over

end Go.Proofs.Ytacanmmkhbdmlaa
