/-
  Proved: the statement CzddSwept, for every input (printed by wip/mk_swlaw.py).
-/
import Derived.Test.YtacanmmkhbdmlaaPHMadeQ
import Derived.Test.YtacanmmkhbdmlaaPLawBase
import Derived.Test.YtacanmmkhbdmlaaPQAlive
import Derived.Test.YtacanmmkhbdmlaaPSSweep
import Derived.Test.YtacanmmkhbdmlaaPSwTerm
import Derived.Test.YtacanmmkhbdmlaaPTermA
import Derived.Test.YtacanmmkhbdmlaaPTwoA
import Derived.Test.YtacanmmkhbdmlaaPUnfA
import Derived.Test.YtacanmmkhbdmlaaRows
namespace Go.Proofs.Ytacanmmkhbdmlaa
set_option linter.unusedSimpArgs false
set_option linter.unusedVariables false
set_option maxHeartbeats 600000
open Go.ChangeShapes Go.WideShapes Go.ChangeAt Go.RowKit


set_option maxRecDepth 100000 in
theorem czddSwept_out (n a b : Int) (w : World) (h : n < 0 ∨ 6 < n) :
    Calls Try.prog 5 #[.int .i64 n, .int .u64 a, .int .u64 b] w fun e w' => e = .returned (.bool true) ∧ Keeps w w' := by
  have H := Lib.hid h
  clear h
  go_enter Try.func5, Try.ntmps5
  go_wp2_with (first | (go_at_call 25; refine (q_alive _).mono ?_; rintro e w1 ⟨rfl, hk⟩) | fail)
  all_goals first | (go_ret; exact ⟨rfl, by (repeat (first | with_reducible exact Keeps.refl _ | with_reducible assumption | with_reducible refine Keeps.alloc ?_ _ | with_reducible refine Keeps.drewN ?_ _ | with_reducible refine Keeps.drew ?_ | refine Keeps.setCell ?_ (by dsimp only; omega) _ | with_reducible refine Keeps.trans ?_ (by assumption)))⟩) | (exfalso; have := H.out; omega)

theorem qtabS {w : World} {B : Nat} {bs : List Bool} (h : BoolsAt w B bs) : TabAt w B 0 bs := fun i b hb => by
  rw [Nat.zero_add]
  exact h.cell hb

theorem qmade_text {F : Nat → Prop} {w : World} {sb k : Nat} {M : St} {bs : List Bool} {x : Edge} (r6 : StoreRep F w sb M) (hnk : (0 : Int) + (k : Nat) = M.n) (h1 : bs.length = 2 ^ k)
    (hm1 : IsMade 4 M bs k 0 0 x) : unfS 4 M (k + 1) x = termQ (k + 1) k bs 0 ∧ M.leads 4 x 0 = true := by
  have t1 := IsMade.table (.inr (.inl rfl)) _ _ _ _ hm1
  rw [List.drop_zero, List.take_of_length_le (by omega)] at t1
  exact ⟨two4 r6.wf k _ 0 _ t1 hnk k k (Nat.le_refl _) (Nat.le_refl _), t1.leads r6.wf (by omega) hnk⟩

theorem qunf_str {F : Nat → Prop} {w : World} {sb k : Nat} {M : St} {x : Edge} {t : ByteArray} (r6 : StoreRep F w sb M) (hk6 : k ≤ 6) (hn : M.n = (k : Int)) (hx : x.ok) (ht : unfS 4 M (k + 1) x = t) :
    ∀ W, Keeps w W → Calls Try.prog 29 #[.pointer (some ⟨sb, 0, none⟩), .agg #[.int .u8 x.tag, .int .u32 x.to], .int .i64 (k : Int)] W fun r w' => r = .returned (.string t) ∧ Keeps W w' := by
  intro W hW
  have e1 : ((k + 1 : Nat) : Int) - 1 = (k : Int) := by omega
  have := unfQ_calls r6 (by omega) (k + 1) (by omega) x W hW hx
  rw [e1, ht] at this
  exact this

set_option maxRecDepth 100000 in
set_option maxHeartbeats 1000000 in
theorem czddSwept_in (k : Nat) (a b : Int) (w : World) (h : k ≤ 6) (ha : 0 ≤ a) (ha2 : a ≤ 18446744073709551615) (hb : 0 ≤ b) (hb2 : b ≤ 18446744073709551615) :
    Calls Try.prog 5 #[.int .i64 (k : Int), .int .u64 a, .int .u64 b] w fun e w' => e = .returned (.bool true) ∧ Keeps w w' := by
  have h6 : 2 ^ k ≤ 2 ^ 6 := Nat.pow_le_pow_right (by decide) h
  have e6 : (2 : Nat) ^ 6 = 64 := rfl
  rw [e6] at h6
  have H6 := Lib.hid h6
  have hpos := Lib.hid (Nat.pow_pos (n := k) (show 0 < 2 by decide))
  clear h6 e6
  go_enter Try.func5, Try.ntmps5
  go_wp2_with (first | (go_at_call 25; refine (q_alive _).mono ?_; rintro e w1 ⟨rfl, hk⟩) | fail)
  refine (store_new (k : Int) 400 _ (by omega) (by omega) (by omega) (by omega)).mono ?_
  rintro e w2 ⟨sb, F, rfl, hk2, hF, hS⟩
  have HS := Lib.hid hS
  have HF := Lib.hid hF
  have z1 := hk.size
  have HK2 := Lib.hid (hk.trans hk2)
  clear hS hF hk2 hk
  go_wp2_with fail
  refine (bits_calls k (by omega) a ha ha2 _).mono ?_
  rintro e w3 ⟨bs, hbl, rfl, hB, hk3⟩
  have HB := Lib.hid hB
  have HK3 := Lib.hid hk3
  have HBL := Lib.hid hbl
  clear hB hk3 hbl
  go_wp2_with fail
  refine (bits_calls k (by omega) b hb hb2 _).mono ?_
  rintro e w4 ⟨cs, hcl, rfl, hC, hk4⟩
  have HC := Lib.hid hC
  have HK4 := Lib.hid hk4
  have HCL := Lib.hid hcl
  clear hC hk4 hcl
  have nFB : ¬ F w2.heap.size := fun hf => by have := HS.out.lt _ hf; omega
  have nFC : ¬ F w3.heap.size := fun hf => by have := HS.out.lt _ hf; have := HK3.out.size; omega
  have hB4 : BoolsAt w4 w2.heap.size bs := HB.out.keep (Keeps.upd HK4.out (fun _ => False)) (fun h => h)
  have hmade := qmade_calls k (by omega) 0 (2 ^ k) 0 F w4 (St.new (k : Int) 400) ((HS.out.keeps HK3.out).keeps HK4.out) hB4 nFB (by omega) (Nat.le_refl _) (by have := H6.out; omega) (by rw [HBL.out]; omega) (by simp [St.new]) (by have := H6.out; simp [St.new, St.len]; omega)
  have HMD := Lib.hid hmade
  clear hmade
  go_wp2_with fail
  refine HMD.out.mono ?_
  rintro e w5 ⟨x, M1, rfl, hx, hm1, hg1, hst1⟩
  have hst' := hst1
  obtain ⟨⟨F5, r5, sub5⟩, u5⟩ := hst'
  have z5 := u5.size
  have nF5B : ¬ F5 w2.heap.size := fun hf => by
    rcases sub5 _ hf with q | q
    · exact nFB q
    · have := hB4.lt; omega
  have nF5C : ¬ F5 w3.heap.size := fun hf => by
    rcases sub5 _ hf with q | q
    · exact nFC q
    · have := HC.out.lt; omega
  have hB5 : BoolsAt w5 w2.heap.size bs := hB4.keep u5 nFB
  have hC5 : BoolsAt w5 w3.heap.size cs := HC.out.keep u5 nFC
  have hn1 : M1.n = (k : Int) := by rw [hg1.ext.n]; simp [St.new]
  have hg1l := hg1.len
  have hg1r := hg1.room
  simp only [St.new, St.len, List.length_nil] at hg1l hg1r
  have hlen1 : M1.len ≤ 64 := by have := H6.out; unfold St.len; omega
  obtain ⟨tx1, tx2⟩ := qmade_text r5 (by omega) HBL.out hm1
  have hat : At 4 M1 x 0 (k + 1) := ⟨tx2, hx, by push_cast; omega⟩
  obtain ⟨sw1, sw2, sw3⟩ := sweep_text r5 (by omega) hat
  have hsl := sweep_len M1 [x.to]
  have hlen2 : (sweepSt M1 [x.to]).len ≤ 64 := by omega
  obtain ⟨t1, ht1⟩ : ∃ t1, t1 = termQ (k + 1) k bs 0 := ⟨_, rfl⟩
  rw [← ht1] at tx1
  rw [tx1] at sw1 sw2
  have hkw5 : Keeps w w5 := by
    refine (((HK2.out.trans HK3.out).trans HK4.out)).new u5 (fun j hj => ?_)
    have := HF.out j hj
    omega
  have hF5 : ∀ j, F5 j → w.heap.size ≤ j := fun j hj => by
    rcases sub5 j hj with q | q
    · have := HF.out j q; omega
    · have := ((HK2.out.trans HK3.out).trans HK4.out).size; omega
  have HB5 := Lib.hid hB5
  have HC5 := Lib.hid hC5
  have HR5 := Lib.hid r5
  have HX := Lib.hid hx
  have HAT := Lib.hid hat
  have HSW1 := Lib.hid sw1
  have HSW2 := Lib.hid sw2
  have HSW3 := Lib.hid sw3
  have HKW5 := Lib.hid hkw5
  have HF5 := Lib.hid hF5
  have HN1 := Lib.hid hn1
  have HT1 := Lib.hid ht1
  have HL2 := Lib.hid hlen2
  have HGR := Lib.hid (show M1.room = 400 from hg1r)
  clear hB4 hB5 hC5 r5 hx hat sw1 sw2 sw3 hkw5 hF5 hn1 ht1 hlen1 hlen2 hsl tx1 tx2 hm1 hg1 hg1l hg1r hst1 sub5 u5 HMD HS HF HB HC nFB nFC
  go_wp2_with fail
  have nF5x : ¬ F5 w5.heap.size := fun hf => by have := HR5.out.lt _ hf; omega
  have nF5y : ¬ F5 (w5.heap.size + 1) := fun hf => by have := HR5.out.lt _ hf; omega
  obtain ⟨W1, hW1⟩ : ∃ W1, (w5.alloc (.cells #[.int .u8 x.tag, .int .u32 x.to] 35)).alloc (.cells #[.int .u8 x.tag, .int .u32 x.to] 35) = W1 := ⟨_, rfl⟩
  have hk1 : Keeps w5 W1 := by rw [← hW1]; exact ((Keeps.refl _).alloc _).alloc _
  have hzw : W1.heap.size = w5.heap.size + 2 := by rw [← hW1]; simp
  have x0 : W1.cell? ⟨w5.heap.size, 0, none⟩ = some (.int .u8 x.tag) := by rw [← hW1]; simp [go_sem]
  have x1 : W1.cell? ⟨w5.heap.size, 1, none⟩ = some (.int .u32 x.to) := by rw [← hW1]; simp [go_sem]
  have hes : IsEdges W1 (some ⟨w5.heap.size + 1, 0, none⟩) 1 [x] := by
    refine ⟨rfl, fun i e hi => ?_⟩
    rcases i with _ | i
    · cases hi
      exact ⟨HX.out, _, _, rfl, by rw [← hW1]; simp [go_sem], by rw [← hW1]; simp [go_sem]⟩
    · simp at hi
  rw [hW1]
  clear hW1
  refine (store_sweep (HR5.out.keeps hk1) _ 1 1 [x] hes (by omega)).mono ?_
  rintro e w6 ⟨he, hu, hS6⟩
  obtain ⟨gl, hgl⟩ : ∃ gl : Int, gl = ((goneL M1 ([x].map Edge.to)).length : Int) := ⟨_, rfl⟩
  rw [← hgl] at he
  subst he
  clear hgl
  have z6 := hu.size
  obtain ⟨F6, hF6⟩ : ∃ F6, F6 = Grow F5 W1 w6 := ⟨_, rfl⟩
  have hS6 : StoreRep F6 w6 sb (sweepSt M1 [x.to]) := by rw [hF6]; exact hS6
  have sub6 : ∀ j, F6 j → F5 j ∨ W1.heap.size ≤ j := fun j hj => by rw [hF6] at hj; rcases hj with q | q; exact .inl q; exact .inr q.1
  have x0 := hu.cellAt nF5x x0
  have x1 := hu.cellAt nF5x x1
  have hB6 : BoolsAt w6 w2.heap.size bs := (HB5.out.keep (Keeps.upd hk1 (fun _ => False)) (fun h => h)).keep hu nF5B
  have hC6 : BoolsAt w6 w3.heap.size cs := (HC5.out.keep (Keeps.upd hk1 (fun _ => False)) (fun h => h)).keep hu nF5C
  have hkw6 : Keeps w w6 := (HKW5.out.trans hk1).new hu HF5.out
  have nF6x : ¬ F6 w5.heap.size := fun hf => by rcases sub6 _ hf with q | q; exact nF5x q; omega
  have nF6B : ¬ F6 w2.heap.size := fun hf => by
    rcases sub6 _ hf with q | q
    · exact nF5B q
    · have := HB5.out.lt; omega
  have nF6C : ¬ F6 w3.heap.size := fun hf => by
    rcases sub6 _ hf with q | q
    · exact nF5C q
    · have := HC5.out.lt; omega
  have hF6w : ∀ j, F6 j → w.heap.size ≤ j := fun j hj => by
    rcases sub6 j hj with q | q
    · exact HF5.out j q
    · have := HKW5.out.size; omega
  obtain ⟨M2, hM2⟩ : ∃ M2, M2 = sweepSt M1 [x.to] := ⟨_, rfl⟩
  have n2 : M2.n = (k : Int) := by rw [hM2]; exact HN1.out
  have r2 : M2.room = 400 := by rw [hM2]; exact HGR.out
  have l2 := HL2.out
  have tx := HSW1.out
  have ln := HSW2.out
  have ld := HSW3.out
  rw [← hM2] at hS6 l2 tx ln ld
  have hts : t1.size ≤ 1048576 := by
    have q1 := unfS_size 4 M2 (k + 1) x
    rw [tx] at q1
    have q2 : 2 ^ (k + 1) ≤ 2 ^ 7 := Nat.pow_le_pow_right (by decide) (by omega)
    have q3 : (2 : Nat) ^ 7 = 128 := rfl
    omega
  have hat2 : At 4 M2 x 0 (k + 1) := ⟨ld, HX.out, by push_cast; omega⟩
  have hU1 := qunf_str hS6 h n2 HX.out tx
  have hT1 := fun (W : World) (hW : Keeps w6 W) => termQ_calls (k + 1) (by omega) k (by omega) (by omega) 0 (2 ^ k) bs 0 W ((qtabS hB6).keeps hW) HBL.out (Nat.le_refl _) (by have := H6.out; omega) (by omega) (by omega)
  rw [← HT1.out] at hT1
  have hlen := fun (W : World) (hW : Keeps w6 W) => store_len (hS6.keeps hW)
  rw [ln] at hlen
  have HPT := Lib.hid (fun (W : World) => parts_calls t1 W hts)
  obtain ⟨pl, hpl⟩ : ∃ pl, pl = (partsTo t1 t1.size).length := ⟨_, rfl⟩
  rw [← hpl] at HPT hlen
  clear hpl
  have hmade2 := fun (W : World) (hW : Keeps w6 W) => qmade_calls k (by omega) 0 (2 ^ k) 0 F6 W M2 (hS6.keeps hW) (hC6.keep (Keeps.upd hW (fun _ => False)) (fun h => h)) nF6C (by omega) (Nat.le_refl _) (by have := H6.out; omega) (by rw [HCL.out]; omega) (by rw [n2]; omega) (by have := H6.out; rw [r2]; omega)
  have HU1 := Lib.hid hU1
  have HTT1 := Lib.hid hT1
  have HLEN := Lib.hid hlen
  have HMD2 := Lib.hid hmade2
  have HS6 := Lib.hid hS6
  have HAT2 := Lib.hid hat2
  have HTX := Lib.hid tx
  have HB6 := Lib.hid hB6
  have HC6 := Lib.hid hC6
  have HKW6 := Lib.hid hkw6
  have HFW := Lib.hid hF6w
  have HN2 := Lib.hid n2
  have hxw6 : w5.heap.size < w6.heap.size := lt_of_cell x0
  clear hU1 hT1 hlen hmade2 hS6 hat2 tx ln ld l2 n2 r2 hB6 hC6 hkw6 hF6w hu hk1 hes hF6 sub6 hM2 HSW1 HSW2 HSW3 HR5 HAT HT1 HL2 HGR HN1 HF5 HKW5 HB5 HC5 nF5B nF5C nF5x nF5y hts
  go_wp2_with fail
  refine (HTT1.out _ (Keeps.refl _)).mono ?_
  rintro e w7 ⟨rfl, hk7⟩
  have x0 := hk7.cell x0
  have x1 := hk7.cell x1
  go_wp2_with fail
  refine (HLEN.out _ hk7).mono ?_
  rintro e w8 ⟨rfl, rfl⟩
  go_wp2_with fail
  refine (HPT.out _).mono ?_
  rintro e w8 ⟨pa, pcap, rfl, hk8⟩
  have hk68 := hk7.trans hk8
  have x0 := hk8.cell x0
  have x1 := hk8.cell x1
  clear hk7 hk8
  go_wp2_with fail
  refine (HU1.out _ hk68).mono ?_
  rintro e w9 ⟨rfl, hk9⟩
  have hk69 := hk68.trans hk9
  have x0 := hk9.cell x0
  have x1 := hk9.cell x1
  have HK69 := Lib.hid hk69
  clear hk68 hk9 hk69
  go_wp2_with fail
  refine (HMD2.out _ HK69.out).mono ?_
  rintro e w10 ⟨y, M3, rfl, hy, hm3, hg3, hst3⟩
  have x0 := hst3.cell nF6x x0
  have x1 := hst3.cell nF6x x1
  obtain ⟨⟨F7, r7, sub7⟩, u7⟩ := hst3
  have n3 : M3.n = (k : Int) := by rw [hg3.ext.n]; exact HN2.out
  obtain ⟨ty1, _⟩ := qmade_text r7 (by omega) HCL.out hm3
  have tx3 := ext_text HS6.out (by have := HN2.out; omega) HAT2.out hg3.ext
  rw [HTX.out] at tx3
  obtain ⟨t2, ht2⟩ : ∃ t2, t2 = termQ (k + 1) k cs 0 := ⟨_, rfl⟩
  rw [← ht2] at ty1
  have hUX := qunf_str r7 h n3 HX.out tx3
  have hUY := qunf_str r7 h n3 hy ty1
  have hC10 : BoolsAt w10 w3.heap.size cs := (HC6.out.keep (Keeps.upd HK69.out (fun _ => False)) (fun h => h)).keep u7 nF6C
  have hT2 := fun (W : World) (hW : Keeps w10 W) => termQ_calls (k + 1) (by omega) k (by omega) (by omega) 0 (2 ^ k) cs 0 W ((qtabS hC10).keeps hW) HCL.out (Nat.le_refl _) (by have := H6.out; omega) (by omega) (by omega)
  rw [← ht2] at hT2
  have hK10 : Keeps w w10 := (HKW6.out.trans HK69.out).new u7 HFW.out
  have HUX := Lib.hid hUX
  have HUY := Lib.hid hUY
  have HTT2 := Lib.hid hT2
  have HK10 := Lib.hid hK10
  have hx10 : w5.heap.size < w10.heap.size := lt_of_cell x0
  clear hUX hUY hT2 hK10 hC10 ht2 ty1 tx3 n3 r7 sub7 u7 hm3 hg3 hy HMD2 HTT1 HLEN HPT HU1 HS6 HAT2 HTX HB6 HC6 HKW6 HFW HN2 HK69
  go_wp2_with fail
  refine (HUX.out _ ((Keeps.refl _).alloc _)).mono ?_
  rintro e w11 ⟨rfl, hk11⟩
  have y0 := hk11.cell (a := ⟨w10.heap.size, 0, none⟩) (v := .int .u8 y.tag) (by simp)
  have y1 := hk11.cell (a := ⟨w10.heap.size, 1, none⟩) (v := .int .u32 y.to) (by simp)
  have hv1 : Keeps w10 w11 := ((Keeps.refl _).alloc _).trans hk11
  clear hk11 x0 x1
  go_wp2_with fail
  refine (HUY.out _ hv1).mono ?_
  rintro e w12 ⟨rfl, hk12⟩
  have hv2 := hv1.trans hk12
  clear y0 y1 hv1 hk12
  go_wp2_with fail
  refine (HTT2.out _ hv2).mono ?_
  rintro e w13 ⟨rfl, hk13⟩
  have HEND := Lib.hid (HK10.out.trans (hv2.trans hk13))
  clear hv2 hk13
  go_wp2
  go_ret
  exact ⟨rfl, HEND.out⟩

theorem czddSwept_walk (n a b : Int) (w : World) (_ : (Lit.int .i64 n).wf = true) (ha : (Lit.int .u64 a).wf = true) (hb : (Lit.int .u64 b).wf = true) :
    Calls Try.prog 5 #[.int .i64 n, .int .u64 a, .int .u64 b] w fun e w' => e = .returned (.bool true) ∧ Keeps w w' := by
  by_cases h : n < 0 ∨ 6 < n
  · exact czddSwept_out n a b w h
  · have hmin : IntKind.u64.min = 0 := rfl
    have hmax : IntKind.u64.max = 18446744073709551615 := rfl
    simp only [Lit.wf, Bool.and_eq_true, decide_eq_true_eq, hmin, hmax] at ha hb
    obtain ⟨k, rfl⟩ : ∃ k : Nat, n = (k : Int) := ⟨n.toNat, by omega⟩
    exact czddSwept_in k a b w (by omega) ha.1 ha.2 hb.1 hb.2

set_option maxRecDepth 100000 in
theorem czddSwept_lifted (os : Os) (started : os.Started) (H : Type) (enc : TypeId × Value → H) :
    ReturnsInHanded {} Try.checked os 5 .any (Rows.czddSweptSpec.pre6 enc Try.prog Try.f5 Rows.czddSweptRow.domain false) (Rows.czddSweptSpec.post enc Try.prog Try.f5 false true false false) := by
  refine returnsInHanded_of_change (C := Try.checked) own started (by kernel_rfl) Try.func5
    (ChangeSpec.witness6 (enc := enc) (C := Try.checked) false ⟨#[], #[.int .i64 0, .int .u64 0, .int .u64 0], []⟩ 12 (by kernel_rfl) (by kernel_rfl) (by kernel_rfl) (by kernel_rfl)) ?_
  intro W base args ds gs before hval0 hW hcnd _
  have hval : ∀ (j : Nat) t v, Try.f5.params[j]? = some t → args[j]? = some v → Value.okWide Try.prog W .any base t v := hval0
  have hW' := hW
  obtain ⟨p, q, hA0, hV, rfl, hfz, hnd⟩ := hW
  have hA : DataW.TrodAll enc Try.prog W 0 (fun _ => true) true Try.f5.params.toList args.toList ds p := hA0
  rw [Try.params5] at hA hval
  have hAk := hA
  obtain ⟨v0, vs0, d0, ds0, p0, q0, hargs, rfl, rfl, h0, r0⟩ := trodAll_cons hA
  obtain ⟨v1, vs1, d1, ds1, p1, q1, rfl, rfl, rfl, h1, r1⟩ := trodAll_cons r0
  obtain ⟨v2, vs2, d2, ds2, p2, q2, rfl, rfl, rfl, h2, r2⟩ := trodAll_cons r1
  obtain ⟨rfl, rfl, rfl⟩ := trodAll_nil r2
  obtain rfl : args = #[v0, v1, v2] := by cases args; simp_all
  obtain ⟨rfl, rfl⟩ := trodVars_none hV
  obtain ⟨a0, rfl, rfl, rfl, w0⟩ := open_int Try.underlying3 (hval 0 3 v0 rfl rfl) h0
  obtain ⟨a1, rfl, rfl, rfl, w1⟩ := open_int Try.underlying22 (hval 1 22 v1 rfl rfl) h1
  obtain ⟨a2, rfl, rfl, rfl, w2⟩ := open_int Try.underlying22 (hval 2 22 v2 rfl rfl) h2
  clear hA0 hval0
  refine (czddSwept_walk a0 a1 a2 W w0 w1 w2).mono fun e W' ⟨he, bel⟩ => ?_
  subst he
  exact ⟨_, rfl, _, _, _, [], _, [], hW', trodAll_mk1 (shut_bool Try.underlying4 _), trodAll_below laidOut bel _ _ _ _ (by kernel_rfl) hAk, rfl, Below.frame bel _, fun h => by cases h⟩

theorem czddSwept_over : Rows.czddSweptRow.holds Try.pinned (OpenSpec.ofChange Rows.czddSweptSpec) :=
  OpenClaim.holds_of_wide 5 Try.f5 rfl rfl rfl rfl rfl rfl rfl ⟨rfl, rfl, rfl, rfl, rfl⟩ rfl rfl rfl rfl rfl (by kernel_rfl) Try.func5 (by kernel_rfl)
    (of_decide_eq_true (by kernel_rfl)) (by unfold Func.isWrapper; first | (rw [if_pos (by decide +kernel)]; kernel_rfl) | (rw [if_neg (by decide +kernel)]; exact ⟨rfl, rfl⟩))
    (fun os started H enc _ => czddSwept_lifted os started H enc)

theorem czddSwept_proved : Rows.CzddSweptSaid := czddSwept_over

end Go.Proofs.Ytacanmmkhbdmlaa
