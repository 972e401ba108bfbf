/-
  Proved: the statement ConvertEach, for every input.
-/
import Derived.Test.YtiacdpoldgfpbaaGreatPCEachxK
import Derived.Test.YtiacdpoldgfpbaaGreatPCSamexG
import Derived.Test.YtiacdpoldgfpbaaGreatPIsWxD
import Derived.Test.YtiacdpoldgfpbaaGreatRows
namespace Go.Proofs.YtiacdpoldgfpbaaGreat
set_option linter.unusedSimpArgs false
set_option linter.unusedVariables false
set_option maxHeartbeats 600000
open Go.ChangeShapes Go.WideShapes Go.ChangeAt Go.RowKit

set_option maxRecDepth 100000 in
theorem convertEach_out (n f g a b : Int) (w : World) (h : n < 0 ∨ 6 < n ∨ f < 1 ∨ 5 < f ∨ g < 1 ∨ 5 < g) :
    Calls Tryz.prog 7 #[.int .i64 n, .int .u8 f, .int .u8 g, .int .u64 a, .int .u64 b] w fun e w' => e = .returned (.bool true) ∧ Keeps w w' := by
  have H := Lib.hid h
  clear h
  go_enter Tryz.func7, Tryz.ntmps7
  go_wp2_with (first | (go_at_call 18; refine (l25_alive _).mono ?_; rintro e w1 ⟨rfl, hk⟩) | fail)
  all_goals first | (go_ret; exact ⟨rfl, by (exact kp)⟩) | (exfalso; have := H.out; omega)

theorem tabZ {w : World} {B : Nat} {bs : List Bool} (h : BoolsAt w B bs) : TabAt w B 0 bs := fun i b hb => by
  rw [Nat.zero_add]
  exact h.cell hb

set_option maxRecDepth 100000 in
set_option maxHeartbeats 8000000 in
theorem convertEach_in (k : Nat) (f g a b : Int) (w : World) (hk6 : k ≤ 6) (hf : 1 ≤ f ∧ f ≤ 5) (hg : 1 ≤ g ∧ g ≤ 5) (ha : 0 ≤ a) (ha2 : a ≤ 18446744073709551615) (hb : 0 ≤ b) (hb2 : b ≤ 18446744073709551615) :
    Calls Tryz.prog 7 #[.int .i64 (k : Int), .int .u8 f, .int .u8 g, .int .u64 a, .int .u64 b] w fun e w' => e = .returned (.bool true) ∧ Keeps w w' := by
  have h6 : 2 ^ k ≤ 2 ^ 6 := Nat.pow_le_pow_right (by decide) hk6
  have e6 : (2 : Nat) ^ 6 = 64 := rfl
  rw [e6] at h6
  have H6 := Lib.hid h6
  have HP0 := Lib.hid (Nat.pow_pos (n := k) (show 0 < 2 by decide))
  clear h6 e6
  go_enter Tryz.func7, Tryz.ntmps7
  go_wp2_with (first | (go_at_call 18; refine (l25_alive _).mono ?_; rintro e w1 ⟨rfl, hk⟩) | fail)
  have HK1 := Lib.hid hk
  clear hk
  refine (store_new (k : Int) 2000 _ (by omega) (by omega) (by omega) (by omega)).mono ?_
  rintro e w2 ⟨sb, F, rfl, hk2, hF, hS⟩
  have HS := Lib.hid hS
  have HF := Lib.hid hF
  have HK2 := Lib.hid (HK1.out.trans hk2)
  clear hS hF hk2
  go_wp2_with fail
  refine (bits_calls k (by omega) a ha ha2 _).mono ?_
  rintro e w3 ⟨bs, hbl, rfl, hB, hk3⟩
  have HB := Lib.hid hB
  have HK3 := Lib.hid hk3
  have HBL := Lib.hid hbl
  clear hB hk3 hbl
  go_wp2_with fail
  refine (bits_calls k (by omega) b hb hb2 _).mono ?_
  rintro e w4 ⟨cs, hcl, rfl, hC, hk4⟩
  have HC := Lib.hid hC
  have HK4 := Lib.hid hk4
  have HCL := Lib.hid hcl
  clear hC hk4 hcl
  have nFB : ¬ F w2.heap.size := fun hf => by have := HS.out.lt _ hf; omega
  have nFC : ¬ F w3.heap.size := fun hf => by have := HS.out.lt _ hf; have := HK3.out.size; omega
  have hB4 : BoolsAt w4 w2.heap.size bs := HB.out.keep (Keeps.upd HK4.out (fun _ => False)) (fun h => h)
  have hmade := kmade_calls f hf k (by omega) 0 (2 ^ k) 0 F w4 (St.new (k : Int) 2000) ((HS.out.keeps HK3.out).keeps HK4.out) hB4 nFB (by omega) (Nat.le_refl _) (by have := H6.out; omega) (by rw [HBL.out]; omega) (by simp [St.new]) (by have := H6.out; simp [St.new, St.len]; omega)
  have HMD := Lib.hid hmade
  have HB4 := Lib.hid hB4
  clear hmade hB4
  go_wp2_with fail
  refine HMD.out.mono ?_
  rintro e w5 ⟨x, M1, rfl, hx, hm1, hg1, hst1⟩
  obtain ⟨⟨F5, r5, sub5⟩, u5⟩ := hst1
  have own : IsT f M1 k bs 0 x := by
    have := hm1.1
    rw [List.drop_zero, List.take_of_length_le (by rw [HBL.out]; exact Nat.le_refl _)] at this
    exact this
  have z2 := HK3.out.size
  have z3 := HK4.out.size
  have z4 := HB.out.lt
  have z5 := u5.size
  have zc := HC.out.lt
  have nF5C : ¬ F5 w3.heap.size := fun hf => by
    rcases sub5 _ hf with q | q
    · exact nFC q
    · omega
  have nF5B : ¬ F5 w2.heap.size := fun hf => by
    rcases sub5 _ hf with q | q
    · exact nFB q
    · omega
  have nF5x : ¬ F5 w5.heap.size := fun hf => by have := r5.lt _ hf; omega
  have kx := (Keeps.refl w5).alloc (.cells #[.int .u8 x.tag, .int .u32 x.to] 31)
  have hC5 : BoolsAt (w5.alloc (.cells #[.int .u8 x.tag, .int .u32 x.to] 31)) w3.heap.size cs := (HC.out.keep u5 nFC).keep (Keeps.upd kx (fun _ => False)) (fun h => h)
  have hB5 : BoolsAt (w5.alloc (.cells #[.int .u8 x.tag, .int .u32 x.to] 31)) w2.heap.size bs := (HB4.out.keep u5 nFB).keep (Keeps.upd kx (fun _ => False)) (fun h => h)
  have gl := hg1.len
  have gr := hg1.room
  have gn : (0 : Int) + (k : Nat) = M1.n := by rw [hg1.ext.n]; simp [St.new]
  have hl1 : M1.len ≤ 63 := by have := H6.out; simp [St.new, St.len] at gl ⊢; omega
  have hr1 : M1.room = 2000 := gr
  have hmade2 := kmade_calls g hg k (by omega) 0 (2 ^ k) 0 F5 _ M1 (r5.keeps kx) hC5 nF5C (by omega) (Nat.le_refl _) (by have := H6.out; omega) (by rw [HCL.out]; omega) gn (by have := H6.out; omega)
  have HMD2 := Lib.hid hmade2
  have x0 : (w5.alloc (.cells #[.int .u8 x.tag, .int .u32 x.to] 31)).cell? ⟨w5.heap.size, 0, none⟩ = some (.int .u8 x.tag) := by simp [go_sem]
  have x1 : (w5.alloc (.cells #[.int .u8 x.tag, .int .u32 x.to] 31)).cell? ⟨w5.heap.size, 1, none⟩ = some (.int .u32 x.to) := by simp [go_sem]
  clear hmade2
  go_wp2_with fail
  refine HMD2.out.mono ?_
  rintro e w6 ⟨y, M2, rfl, hy, hm2, hg2, hst2⟩
  obtain ⟨⟨F6, r6, sub6⟩, u6⟩ := hst2
  replace x0 := u6.cellAt nF5x x0
  replace x1 := u6.cellAt nF5x x1
  have z6 := u6.size
  rw [World.size_alloc] at z6
  have nF6x : ¬ F6 w5.heap.size := fun hf => by
    rcases sub6 _ hf with q | q
    · exact nF5x q
    · rw [World.size_alloc] at q; omega
  have own1 : IsT f M2 k bs 0 x := IsT.ext hg2.ext hf _ _ _ _ own
  have own2 : IsT g M2 k cs 0 y := by
    have := hm2.1
    rw [List.drop_zero, List.take_of_length_le (by rw [HCL.out]; exact Nat.le_refl _)] at this
    exact this
  have gn2 : (0 : Int) + (k : Nat) = M2.n := by rw [hg2.ext.n]; exact gn
  have hl2 : M2.len ≤ 126 := by have := hg2.len; have := H6.out; omega
  have hr2 : M2.room = 2000 := by rw [hg2.room]; exact hr1
  have ky := (Keeps.refl w6).alloc (.cells #[.int .u8 y.tag, .int .u32 y.to] 31)
  have hcv : convC M2 f 1 x = 0 := by
    unfold convC
    rw [if_neg (by rw [show isFormB f = true by unfold isFormB; simpa using hf]; simp [isFormB]), if_neg (by rw [own1.leads r6.wf hf gn2]; simp)]
  have hea := each_calls (r6.keeps ky) f x hx (by omega) (by omega) (by omega) (by omega) (by omega) hcv
  have HEA := Lib.hid hea
  have lx : w5.heap.size < w6.heap.size := by omega
  clear hea
  go_wp2_with fail
  refine HEA.out.mono ?_
  rintro e w7 ⟨M3, G3, xs, v, rfl, hI⟩
  replace x0 := hI.upd.cellAt nF6x (ky.cell x0)
  replace x1 := hI.upd.cellAt nF6x (ky.cell x1)
  obtain ⟨B, cap, rfl⟩ := owns_shape hI.row (by decide)
  obtain ⟨q, rfl⟩ : ∃ q : Nat, f = (q : Int) + 1 := ⟨(f - 1).toNat, by omega⟩
  have gn3 : (0 : Int) + (k : Nat) = M3.n := by rw [hI.ext.n]; exact gn2
  have own3 : IsT ((q : Int) + 1) M3 k bs 0 x := IsT.ext hI.ext hf _ _ _ _ own1
  have hall : ∀ j : Nat, j < 5 → ∃ z, xs[j]? = some z ∧ z.ok ∧ IsT ((j : Int) + 1) M3 k bs 0 z ∧ rightK M3 ((j : Int) + 1) z 0 := fun j hj => by
    obtain ⟨z, h1, h2, h3⟩ := hI.good j hj
    have := h3.isT
    rw [IsT.means hI.rep.wf hf k bs 0 x own3 gn3 (Int.le_refl _), show (M3.n - 0).toNat = k by omega] at this
    exact ⟨z, h1, h2, this, h3.right⟩
  have hcell : ∀ (j : Nat) (z : Edge), j < 5 → xs[j]? = some z → w7.cell? ⟨B, j * 2, none⟩ = some (.int .u8 z.tag) ∧ w7.cell? ⟨B, j * 2 + 1, none⟩ = some (.int .u32 z.to) := fun j z hj hz =>
    ⟨(hI.row.cellAt (j * 2 + 0) (by omega)).trans (flat_get edgeCs 2 (fun _ => rfl) xs j 0 _ hz (by decide)), (hI.row.cellAt (j * 2 + 1) (by omega)).trans (flat_get edgeCs 2 (fun _ => rfl) xs j 1 _ hz (by decide))⟩
  obtain ⟨xf, hxf, hxo, hxg, -⟩ := hall q (by omega)
  obtain rfl : xf = x := IsT.det hI.rep.wf _ _ _ _ _ hxg own3
  obtain ⟨c0, c1⟩ := hcell q _ (by omega) hxf
  have HALL := Lib.hid hall
  have HCELL := Lib.hid hcell
  have HI := Lib.hid hI
  have hneq : ∀ W, (binOp .neq 31 (.agg #[.int .u8 xf.tag, .int .u32 xf.to]) (.agg #[.int .u8 xf.tag, .int .u32 xf.to])).run Tryz.prog W = .ok (.bool false) W := fun W => by rw [run_neq_edge]; simp
  have nF6B : ¬ F6 w2.heap.size := fun hf => by
    rcases sub6 _ hf with q | q
    · exact nF5B q
    · rw [World.size_alloc] at q; omega
  have nF6C : ¬ F6 w3.heap.size := fun hf => by
    rcases sub6 _ hf with q | q
    · exact nF5C q
    · rw [World.size_alloc] at q; omega
  have tb7 : BoolsAt w7 w2.heap.size bs := ((hB5.keep u6 nF5B).keep (Keeps.upd ky (fun _ => False)) (fun h => h)).keep hI.upd nF6B
  have tc7 : BoolsAt w7 w3.heap.size cs := ((hC5.keep u6 nF5C).keep (Keeps.upd ky (fun _ => False)) (fun h => h)).keep hI.upd nF6C
  have own4 : IsT g M3 k cs 0 y := IsT.ext hI.ext hg _ _ _ _ own2
  have nF6y : ¬ F6 w6.heap.size := fun hf => by have := r6.lt _ hf; omega
  have y0 := hI.upd.cellAt (b := w6.heap.size) (o := 0) (v := .int .u8 y.tag) nF6y (by simp [go_sem])
  have y1 := hI.upd.cellAt (b := w6.heap.size) (o := 1) (v := .int .u32 y.to) nF6y (by simp [go_sem])
  have low5 : ∀ j, F5 j → w.heap.size ≤ j := fun j hj => by
    have := HK2.out.size
    rcases sub5 j hj with q | q
    · have := HF.out j q; have := HK1.out.size; omega
    · have := HK3.out.size; have := HK4.out.size; omega
  have low6 : ∀ j, F6 j → w.heap.size ≤ j := fun j hj => by
    rcases sub6 j hj with q | q
    · exact low5 j q
    · rw [World.size_alloc] at q; have := HK2.out.size; omega
  have kp7 : Keeps w w7 := by
    have a1 : Keeps w w5 := ((HK2.out.trans HK3.out).trans HK4.out).new u5 (fun j hj => by have := HF.out j hj; have := HK1.out.size; omega)
    have a2 : Keeps w w6 := (a1.trans kx).new u6 low5
    exact (a2.trans ky).new hI.upd low6
  have HT := Lib.hid (⟨tb7, tc7, own3, own4, gn3, kp7⟩ : BoolsAt w7 w2.heap.size bs ∧ BoolsAt w7 w3.heap.size cs ∧ IsT ((q : Int) + 1) M3 k bs 0 xf ∧ IsT g M3 k cs 0 y ∧ (0 : Int) + (k : Nat) = M3.n ∧ Keeps w w7)
  have HYO := Lib.hid (⟨hy, hxo⟩ : y.ok ∧ xf.ok)
  have HK6 := Lib.hid hk6
  have l7x := lt_of_cell x0
  have l7y := lt_of_cell y0
  clear hall hcell hI nF6B nF6C tb7 tc7 own4 nF6y low5 low6 kp7 own3 own2 own1 own hB5 hC5 u6 u5 r5 r6 sub5 sub6 hx hy hm1 hm2 hg1 hg2 HMD HMD2 HEA HB HC HB4 HS HF HK2 HK3 HK4 gl gr gn gn2 gn3 hl1 hr1 hl2 hr2 kx ky hcv
  go_wp2_with fail
  go_quiet (fail)
  go_wp2_with fail
  have hk7 : Keeps w7 (w7.drewN nq) := by (exact kp)
  obtain ⟨W7, hW7⟩ : ∃ W7, W7 = w7.drewN nq := ⟨_, rfl⟩
  rw [← hW7] at hk7 ⊢
  clear hW7
  go_loopg [21] 5 (fun gk s21 wr => ∃ j : Nat, j + gk = 5 ∧ s21 = .int .u8 ((j + 1 : Nat) : Int) ∧ Keeps w7 wr)
  case atStart => exact ⟨0, rfl, rfl, hk7⟩
  case round =>
    obtain ⟨j, hj, rfl, hkr⟩ := hrel
    by_cases hlt : j < 5
    · obtain ⟨z, hz, hzo, hzi, hzr⟩ := HALL.out j hlt
      obtain ⟨d0, d1⟩ := HCELL.out j z hlt hz
      replace d0 := hkr.cell d0
      replace d1 := hkr.cell d1
      have hIs := is19_calls (HI.out.rep.keeps hkr) ((j : Int) + 1) (by omega) hzo HK6.out HT.out.2.2.2.2.1 hzi hzr (fun i b hb => by rw [Nat.zero_add]; exact (HT.out.1.keep (Keeps.upd hkr (fun _ => False)) (fun h => h)).cell hb)
      have HIs := Lib.hid hIs
      clear hIs hzo hzi hzr hz
      go_wp2_with fail
      refine HIs.out.mono ?_
      rintro e w8 ⟨rfl, hk8⟩
      go_wp2_with fail
      go_roundg (gk - 1)
      case rel => exact ⟨j + 1, by omega, by simp, hkr.trans hk8⟩
      case measure => omega
    · obtain rfl : j = 5 := by omega
      obtain ⟨tb, tc, o3, o4, g3, kp⟩ := HT.out
      have hLen := fun (W : World) (hW : Keeps w7 W) => store_len (HI.out.rep.keeps hW)
      have hSm := fun (W : World) (hW : Keeps w7 W) => convsame_calls (HI.out.rep.keeps hW) ((q : Int) + 1) g xf y HYO.out.2 HYO.out.1
      have c0' : csC M3 ((q : Int) + 1) g xf y = 0 := by
        have hb : ∀ t : Int, 1 ≤ t ∧ t ≤ 5 → isFormB t = true := fun t ht => by
          unfold isFormB
          simpa using ht
        unfold csC
        have e0 : convC M3 ((q : Int) + 1) g xf = 0 := by
          unfold convC
          rw [if_neg (by rw [hb _ hf, hb _ hg]; simp), if_neg (by rw [o3.leads HI.out.rep.wf hf g3]; simp)]
        rw [if_pos e0, if_neg (by rw [o4.leads HI.out.rep.wf hg g3]; simp)]
      rw [c0', IsT.means HI.out.rep.wf hf k bs 0 xf o3 g3 (Int.le_refl _), IsT.means HI.out.rep.wf hg k cs 0 y o4 g3 (Int.le_refl _)] at hSm
      have hRS := fun (W : World) (hW : Keeps w7 W) => same_calls (2 ^ k) (2 ^ k) W (tabZ (tb.keep (Keeps.upd hW (fun _ => False)) (fun h => h))) (tabZ (tc.keep (Keeps.upd hW (fun _ => False)) (fun h => h))) (by rw [HBL.out]; have := H6.out; omega) (by rw [HCL.out]; have := H6.out; omega)
      rw [HBL.out, HCL.out] at hRS
      have hbb : sameL bs cs = decide (bs = cs) := by
        rw [Bool.eq_iff_iff]
        simp [sameL_iff]
      obtain ⟨bb, hbe⟩ : ∃ bb, bb = decide (bs = cs) := ⟨_, rfl⟩
      rw [hbb, ← hbe] at hRS
      rw [← hbe] at hSm
      simp only [decide_true, Bool.true_and] at hSm
      obtain ⟨ml, hml⟩ : ∃ ml, ml = M3.len := ⟨_, rfl⟩
      rw [← hml] at hLen
      have HLen := Lib.hid hLen
      have HSm := Lib.hid hSm
      have HRS := Lib.hid hRS
      have KP := Lib.hid kp
      have x0r := hkr.cell x0
      have x1r := hkr.cell x1
      have y0r := hkr.cell y0
      have y1r := hkr.cell y1
      clear hLen hSm hRS kp tb tc o3 o4 g3 c0' hbb hbe hml x0 x1 y0 y1 c0 c1
      go_wp2_with fail
      refine (HLen.out _ hkr).mono ?_
      rintro e w8 ⟨rfl, rfl⟩
      go_wp2_with fail
      refine (HSm.out _ hkr).mono ?_
      rintro e w9 ⟨rfl, hk9⟩
      have hk79 := hkr.trans hk9
      go_wp2_with (first | (go_at_call 36; refine (HRS.out _ hk79).mono ?_; rintro e w10 ⟨rfl, hk10⟩; have hk710 := hk79.trans hk10) | (go_at_call 13; refine (HLen.out _ hk710).mono ?_; rintro e w11 ⟨rfl, rfl⟩) | fail)
      go_ret
      exact ⟨rfl, KP.out.trans hk710⟩

theorem convertEach_walk (n f g a b : Int) (w : World) (_ : (Lit.int .i64 n).wf = true) (_ : (Lit.int .u8 f).wf = true) (_ : (Lit.int .u8 g).wf = true) (ha : (Lit.int .u64 a).wf = true) (hb : (Lit.int .u64 b).wf = true) :
    Calls Tryz.prog 7 #[.int .i64 n, .int .u8 f, .int .u8 g, .int .u64 a, .int .u64 b] w fun e w' => e = .returned (.bool true) ∧ Keeps w w' := by
  by_cases h : n < 0 ∨ 6 < n ∨ f < 1 ∨ 5 < f ∨ g < 1 ∨ 5 < g
  · exact convertEach_out n f g a b w h
  · obtain ⟨k, rfl⟩ : ∃ k : Nat, n = (k : Int) := ⟨n.toNat, by omega⟩
    obtain ⟨a0, a1⟩ := wf_u64 ha
    obtain ⟨b0, b1⟩ := wf_u64 hb
    exact convertEach_in k f g a b w (by omega) (by omega) (by omega) a0 a1 b0 b1

set_option maxRecDepth 100000 in
theorem convertEach_lifted (os : Os) (started : os.Started) (H : Type) (enc : TypeId × Value → H) :
    ReturnsInHanded {} Tryz.checked os 7 .any (Rows.convertEachSpec.pre6 enc Tryz.prog Tryz.f7 Rows.convertEachRow.domain false) (Rows.convertEachSpec.post enc Tryz.prog Tryz.f7 false true false false) := by
  refine returnsInHanded_of_change (C := Tryz.checked) own started (by kernel_rfl) Tryz.func7
    (ChangeSpec.witness6 (enc := enc) (C := Tryz.checked) false ⟨#[], #[.int .i64 0, .int .u8 0, .int .u8 0, .int .u64 0, .int .u64 0], []⟩ 12 (by kernel_rfl) (by kernel_rfl) (by kernel_rfl) (by kernel_rfl)) ?_
  intro W base args ds gs before hval0 hW hcnd _
  have hval : ∀ (j : Nat) t v, Tryz.f7.params[j]? = some t → args[j]? = some v → Value.okWide Tryz.prog W .any base t v := hval0
  have hW' := hW
  obtain ⟨p, q, hA0, hV, rfl, hfz, hnd⟩ := hW
  have hA : DataW.TrodAll enc Tryz.prog W 0 (fun _ => true) true Tryz.f7.params.toList args.toList ds p := hA0
  rw [Tryz.params7] at hA hval
  have hAk := hA
  obtain ⟨v0, vs0, d0, ds0, p0, q0, hargs, rfl, rfl, h0, r0⟩ := trodAll_cons hA
  obtain ⟨v1, vs1, d1, ds1, p1, q1, rfl, rfl, rfl, h1, r1⟩ := trodAll_cons r0
  obtain ⟨v2, vs2, d2, ds2, p2, q2, rfl, rfl, rfl, h2, r2⟩ := trodAll_cons r1
  obtain ⟨v3, vs3, d3, ds3, p3, q3, rfl, rfl, rfl, h3, r3⟩ := trodAll_cons r2
  obtain ⟨v4, vs4, d4, ds4, p4, q4, rfl, rfl, rfl, h4, r4⟩ := trodAll_cons r3
  obtain ⟨rfl, rfl, rfl⟩ := trodAll_nil r4
  obtain rfl : args = #[v0, v1, v2, v3, v4] := by cases args; simp_all
  obtain ⟨rfl, rfl⟩ := trodVars_none hV
  obtain ⟨a0, rfl, rfl, rfl, w0⟩ := open_int Tryz.underlying3 (hval 0 3 v0 rfl rfl) h0
  obtain ⟨a1, rfl, rfl, rfl, w1⟩ := open_int Tryz.underlying5 (hval 1 5 v1 rfl rfl) h1
  obtain ⟨a2, rfl, rfl, rfl, w2⟩ := open_int Tryz.underlying5 (hval 2 5 v2 rfl rfl) h2
  obtain ⟨a3, rfl, rfl, rfl, w3⟩ := open_int Tryz.underlying43 (hval 3 43 v3 rfl rfl) h3
  obtain ⟨a4, rfl, rfl, rfl, w4⟩ := open_int Tryz.underlying43 (hval 4 43 v4 rfl rfl) h4
  clear hA0 hval0
  refine (convertEach_walk a0 a1 a2 a3 a4 W w0 w1 w2 w3 w4).mono fun e W' ⟨he, bel⟩ => ?_
  subst he
  exact ⟨_, rfl, _, _, _, [], _, [], hW', trodAll_mk1 (shut_bool Tryz.underlying4 _), trodAll_below laidOut bel _ _ _ _ (by kernel_rfl) hAk, rfl, Below.frame bel _, fun h => by cases h⟩

theorem convertEach_over : Rows.convertEachRow.holds Tryz.pinned (OpenSpec.ofChange Rows.convertEachSpec) :=
  OpenClaim.holds_of_wide 7 Tryz.f7 rfl rfl rfl rfl rfl rfl rfl ⟨rfl, rfl, rfl, rfl, rfl⟩ rfl rfl rfl rfl rfl (by kernel_rfl) Tryz.func7 (by kernel_rfl)
    (of_decide_eq_true (by kernel_rfl)) (by unfold Func.isWrapper; first | (rw [if_pos (by decide +kernel)]; kernel_rfl) | (rw [if_neg (by decide +kernel)]; exact ⟨rfl, rfl⟩))
    (fun os started H enc _ => convertEach_lifted os started H enc)

theorem convertEach_proved : Rows.ConvertEachSaid := convertEach_over

end Go.Proofs.YtiacdpoldgfpbaaGreat
