/-
  A move or a swap where the row is no order: SwapMeans tells true.
-/
import Derived.Test.YtoeoehbpahodnaaPSwapNo
import Derived.Test.YtoeoehbpahodnaaPSwapV
import Derived.Test.YtoeoehbpahodnaaRows
namespace Go.Proofs.Ytoeoehbpahodnaa
set_option linter.unusedSimpArgs false
set_option linter.unusedVariables false
set_option maxHeartbeats 600000
open Go.ChangeShapes Go.WideShapes Go.ChangeAt Go.RowKit

set_option maxRecDepth 100000 in
set_option maxHeartbeats 4000000 in
theorem swapMeans_move_none (n : Int) (a1 : Option Addr) (len1 cap1 : Nat) (recs : List Rec) (a2 : Option Addr) (cap2 : Nat) (ps : List Int) (a3 : Option Addr) (cap3 : Nat) (rs : List (Int × Edge)) (i j : Int) (w : World) (h1 : len1 ≤ 30) (h2 : 0 ≤ n) (h3 : n ≤ 5) (h4 : ps.length ≤ 16) (h5 : rs.length ≤ 4)
    (hrs : IsRecs w a1 len1 recs) (hps : IntsAt w a2 ps) (hro : IsRoots w a3 rs) (hpb : permB ps = false) :
    Calls Try.prog 3 #[.int .i64 n, .slice a1 len1 cap1, .slice a2 ps.length cap2, .slice a3 rs.length cap3, .int .i64 i, .int .i64 j, .bool true] w fun e w' => e = .returned (.bool true) ∧ Keeps w w' := by
  have hbu := fun (W : World) (hW : Keeps w W) => built2 n 3000 a1 len1 cap1 recs W h2 (by omega) (by omega) (by omega) (by omega) (hrs.keeps hW)
  have hof := fun (W : World) (hW : Keeps w W) => orderOf_calls a2 cap2 ps W (hps.keeps hW) (by omega)
  have hrt := fun (W : World) (hW : Keeps w W) => roots_calls a3 cap3 rs W (hro.keeps hW) (by omega)
  have hok : ∀ r ∈ rs, (0 ≤ r.1 ∧ r.1 ≤ 255) ∧ r.2.ok := fun r hr => by
    obtain ⟨k, hk⟩ := List.mem_iff_getElem?.1 hr
    exact ⟨(hro k r hk).1, (hro k r hk).2.1⟩
  obtain ⟨N, hN⟩ : ∃ N, N = rs.length := ⟨_, rfl⟩
  obtain ⟨K, hK⟩ : ∃ K, K = ps.length := ⟨_, rfl⟩
  rw [← hN] at h5 hrt ⊢
  rw [← hK] at h4 hof ⊢
  have HBU := Lib.hid hbu
  have HOF := Lib.hid hof
  have HRT := Lib.hid hrt
  have HOK := Lib.hid hok
  have HN := Lib.hid hN
  have HK := Lib.hid hK
  have HPS := Lib.hid hps
  clear hbu hof hrt hok hN hK hps hro hrs
  go_enter Try.func3, Try.ntmps3
  go_wp2_with (first | (go_at_call 6; refine (l26_alive _).mono ?_; rintro e w1 ⟨rfl, hk1⟩) | fail)
  refine (HBU.out _ (by (exact kp))).mono ?_
  rintro e w2 ⟨sb, mb, M, L, rfl, hBo, hMn, hMr, hMl, hMs⟩
  have HBo := Lib.hid hBo
  have hk2 : Keeps w w2 := (show Keeps w w1 by (exact kp)).trans hBo.keep
  have HM := Lib.hid (show M.n = n ∧ M.room = 3000 ∧ M.len ≤ len1 ∧ M.solid from ⟨hMn, hMr, hMl, hMs⟩)
  clear hBo hMn hMr hMl hMs
  go_wp2_with fail
  refine (HOF.out _ hk2).mono ?_
  rintro e w3 ⟨hk3, hres⟩
  have hk23 := hk2.trans hk3
  have HK3 := Lib.hid hk3
  rw [hpb] at hres
  simp only [Bool.false_eq_true, if_false] at hres
  subst hres
  go_wp2_with fail
  refine (HRT.out _ hk23).mono ?_
  rintro e w4 ⟨v5, v6, v7, rfl, o5, o6, o7, hk4⟩
  obtain ⟨q5, c5, rfl, -⟩ := owns_slice o5
  obtain ⟨q6, c6, rfl, -⟩ := owns_slice o6
  obtain ⟨q7, c7, rfl, -⟩ := owns_slice o7
  have hmv := move_nil (sp := some ⟨sb, 0, none⟩) (op := none) (.inr ⟨rfl, sb, rfl⟩) i j (.slice q5 N c5) w4
  have hmd := fun (A B : Nat) (hA : A < K) (hB : B < K) (W : World) (hW : Keeps w W) => by
    have := moved_calls a2 cap2 ps W (HPS.out.keeps hW) (by rw [← HK.out]; omega) A B (by rw [← HK.out]; exact hA) (by rw [← HK.out]; exact hB)
    rw [← HK.out] at this
    exact this
  have hrig := fun (W : World) (hW : Keeps w W) => refRight_calls a2 cap2 ps W (HPS.out.keeps hW) (by rw [← HK.out]; omega)
  rw [hpb] at hrig
  rw [← HK.out] at hrig
  have hkw : Keeps w w4 := hk23.trans hk4
  have HMV := Lib.hid hmv
  have HMD := Lib.hid hmd
  have HRG := Lib.hid hrig
  clear hmv hmd hrig HBo o5 o6 o7 HOF HRT HBU HM HOK
  have hv : (2 : Int) = 2 := rfl
  clear hv
  by_cases g0 : i < 0
  · go_wp2_with fail
    refine HMV.out.mono ?_
    rintro e w5 ⟨rfl, hk5⟩
    go_wp2_with fail
    refine (HRG.out _ (hkw.trans hk5)).mono ?_
    rintro e w6 ⟨rfl, rfl⟩
    go_wp2_with fail
    go_ret
    exact ⟨rfl, hkw.trans hk5⟩
  by_cases g1 : n ≤ i
  · go_wp2_with fail
    refine HMV.out.mono ?_
    rintro e w5 ⟨rfl, hk5⟩
    go_wp2_with fail
    refine (HRG.out _ (hkw.trans hk5)).mono ?_
    rintro e w6 ⟨rfl, rfl⟩
    go_wp2_with fail
    go_ret
    exact ⟨rfl, hkw.trans hk5⟩
  by_cases g2 : j < 0
  · go_wp2_with fail
    refine HMV.out.mono ?_
    rintro e w5 ⟨rfl, hk5⟩
    go_wp2_with fail
    refine (HRG.out _ (hkw.trans hk5)).mono ?_
    rintro e w6 ⟨rfl, rfl⟩
    go_wp2_with fail
    go_ret
    exact ⟨rfl, hkw.trans hk5⟩
  by_cases g3 : n ≤ j
  · go_wp2_with fail
    refine HMV.out.mono ?_
    rintro e w5 ⟨rfl, hk5⟩
    go_wp2_with fail
    refine (HRG.out _ (hkw.trans hk5)).mono ?_
    rintro e w6 ⟨rfl, rfl⟩
    go_wp2_with fail
    go_ret
    exact ⟨rfl, hkw.trans hk5⟩
  obtain ⟨A, rfl⟩ : ∃ A : Nat, i = (A : Int) := ⟨i.toNat, by omega⟩
  obtain ⟨B, rfl⟩ : ∃ B : Nat, j = (B : Int) := ⟨j.toNat, by omega⟩
  by_cases hKn : (K : Int) = n
  · subst hKn
    have hA : A < K := by omega
    have hB : B < K := by omega
    go_wp2_with fail
    refine HMV.out.mono ?_
    rintro e w5 ⟨rfl, hk5⟩
    go_wp2_with fail
    refine (HMD.out A B hA hB _ (hkw.trans hk5)).mono ?_
    rintro e w51 ⟨am, cm, rfl, -, hk51⟩
    go_wp2_with fail
    refine (HRG.out _ (hkw.trans (hk5.trans hk51))).mono ?_
    rintro e w6 ⟨rfl, rfl⟩
    go_wp2_with fail
    go_ret
    exact ⟨rfl, hkw.trans (hk5.trans hk51)⟩
  go_wp2_with fail
  refine HMV.out.mono ?_
  rintro e w5 ⟨rfl, hk5⟩
  go_wp2_with fail
  refine (HRG.out _ (hkw.trans hk5)).mono ?_
  rintro e w6 ⟨rfl, rfl⟩
  go_wp2_with fail
  go_ret
  exact ⟨rfl, hkw.trans hk5⟩

set_option maxRecDepth 100000 in
set_option maxHeartbeats 4000000 in
theorem swapMeans_swap_none (n : Int) (a1 : Option Addr) (len1 cap1 : Nat) (recs : List Rec) (a2 : Option Addr) (cap2 : Nat) (ps : List Int) (a3 : Option Addr) (cap3 : Nat) (rs : List (Int × Edge)) (i j : Int) (w : World) (h1 : len1 ≤ 30) (h2 : 0 ≤ n) (h3 : n ≤ 5) (h4 : ps.length ≤ 16) (h5 : rs.length ≤ 4)
    (hrs : IsRecs w a1 len1 recs) (hps : IntsAt w a2 ps) (hro : IsRoots w a3 rs) (hpb : permB ps = false) :
    Calls Try.prog 3 #[.int .i64 n, .slice a1 len1 cap1, .slice a2 ps.length cap2, .slice a3 rs.length cap3, .int .i64 i, .int .i64 j, .bool false] w fun e w' => e = .returned (.bool true) ∧ Keeps w w' := by
  have hbu := fun (W : World) (hW : Keeps w W) => built2 n 3000 a1 len1 cap1 recs W h2 (by omega) (by omega) (by omega) (by omega) (hrs.keeps hW)
  have hof := fun (W : World) (hW : Keeps w W) => orderOf_calls a2 cap2 ps W (hps.keeps hW) (by omega)
  have hrt := fun (W : World) (hW : Keeps w W) => roots_calls a3 cap3 rs W (hro.keeps hW) (by omega)
  have hok : ∀ r ∈ rs, (0 ≤ r.1 ∧ r.1 ≤ 255) ∧ r.2.ok := fun r hr => by
    obtain ⟨k, hk⟩ := List.mem_iff_getElem?.1 hr
    exact ⟨(hro k r hk).1, (hro k r hk).2.1⟩
  obtain ⟨N, hN⟩ : ∃ N, N = rs.length := ⟨_, rfl⟩
  obtain ⟨K, hK⟩ : ∃ K, K = ps.length := ⟨_, rfl⟩
  rw [← hN] at h5 hrt ⊢
  rw [← hK] at h4 hof ⊢
  have HBU := Lib.hid hbu
  have HOF := Lib.hid hof
  have HRT := Lib.hid hrt
  have HOK := Lib.hid hok
  have HN := Lib.hid hN
  have HK := Lib.hid hK
  have HPS := Lib.hid hps
  clear hbu hof hrt hok hN hK hps hro hrs
  go_enter Try.func3, Try.ntmps3
  go_wp2_with (first | (go_at_call 6; refine (l26_alive _).mono ?_; rintro e w1 ⟨rfl, hk1⟩) | fail)
  refine (HBU.out _ (by (exact kp))).mono ?_
  rintro e w2 ⟨sb, mb, M, L, rfl, hBo, hMn, hMr, hMl, hMs⟩
  have HBo := Lib.hid hBo
  have hk2 : Keeps w w2 := (show Keeps w w1 by (exact kp)).trans hBo.keep
  have HM := Lib.hid (show M.n = n ∧ M.room = 3000 ∧ M.len ≤ len1 ∧ M.solid from ⟨hMn, hMr, hMl, hMs⟩)
  clear hBo hMn hMr hMl hMs
  go_wp2_with fail
  refine (HOF.out _ hk2).mono ?_
  rintro e w3 ⟨hk3, hres⟩
  have hk23 := hk2.trans hk3
  have HK3 := Lib.hid hk3
  rw [hpb] at hres
  simp only [Bool.false_eq_true, if_false] at hres
  subst hres
  go_wp2_with fail
  refine (HRT.out _ hk23).mono ?_
  rintro e w4 ⟨v5, v6, v7, rfl, o5, o6, o7, hk4⟩
  obtain ⟨q5, c5, rfl, -⟩ := owns_slice o5
  obtain ⟨q6, c6, rfl, -⟩ := owns_slice o6
  obtain ⟨q7, c7, rfl, -⟩ := owns_slice o7
  have hmv := swap_nil (sp := some ⟨sb, 0, none⟩) (op := none) (.inr ⟨rfl, sb, rfl⟩) i (.slice q5 N c5) w4
  have hmd := fun (A : Nat) (hA : A + 1 < K) (W : World) (hW : Keeps w W) => by
    have := refStep_calls a2 cap2 ps W (HPS.out.keeps hW) (by rw [← HK.out]; omega) A (by rw [← HK.out]; exact hA)
    rw [← HK.out] at this
    exact this
  have hrig := fun (W : World) (hW : Keeps w W) => refRight_calls a2 cap2 ps W (HPS.out.keeps hW) (by rw [← HK.out]; omega)
  rw [hpb] at hrig
  rw [← HK.out] at hrig
  have hkw : Keeps w w4 := hk23.trans hk4
  have HMV := Lib.hid hmv
  have HMD := Lib.hid hmd
  have HRG := Lib.hid hrig
  clear hmv hmd hrig HBo o5 o6 o7 HOF HRT HBU HM HOK
  have hv : (2 : Int) = 2 := rfl
  clear hv
  by_cases g0 : i < 0
  · go_wp2_with fail
    refine HMV.out.mono ?_
    rintro e w5 ⟨rfl, hk5⟩
    go_wp2_with fail
    refine (HRG.out _ (hkw.trans hk5)).mono ?_
    rintro e w6 ⟨rfl, rfl⟩
    go_wp2_with fail
    go_ret
    exact ⟨rfl, hkw.trans hk5⟩
  by_cases g1 : n - 1 ≤ i
  · go_wp2_with fail
    refine HMV.out.mono ?_
    rintro e w5 ⟨rfl, hk5⟩
    go_wp2_with fail
    refine (HRG.out _ (hkw.trans hk5)).mono ?_
    rintro e w6 ⟨rfl, rfl⟩
    go_wp2_with fail
    go_ret
    exact ⟨rfl, hkw.trans hk5⟩
  obtain ⟨A, rfl⟩ : ∃ A : Nat, i = (A : Int) := ⟨i.toNat, by omega⟩
  by_cases hKn : (K : Int) = n
  · subst hKn
    have hA : A + 1 < K := by omega
    go_wp2_with fail
    refine HMV.out.mono ?_
    rintro e w5 ⟨rfl, hk5⟩
    go_wp2_with fail
    refine (HMD.out A hA _ (hkw.trans hk5)).mono ?_
    rintro e w51 ⟨am, cm, rfl, -, hk51⟩
    go_wp2_with fail
    refine (HRG.out _ (hkw.trans (hk5.trans hk51))).mono ?_
    rintro e w6 ⟨rfl, rfl⟩
    go_wp2_with fail
    go_ret
    exact ⟨rfl, hkw.trans (hk5.trans hk51)⟩
  go_wp2_with fail
  refine HMV.out.mono ?_
  rintro e w5 ⟨rfl, hk5⟩
  go_wp2_with fail
  refine (HRG.out _ (hkw.trans hk5)).mono ?_
  rintro e w6 ⟨rfl, rfl⟩
  go_wp2_with fail
  go_ret
  exact ⟨rfl, hkw.trans hk5⟩

end Go.Proofs.Ytoeoehbpahodnaa
