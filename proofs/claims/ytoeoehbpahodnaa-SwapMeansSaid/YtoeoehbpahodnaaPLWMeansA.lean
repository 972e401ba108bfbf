/-
  A move under an order that is one: SwapMeans tells true.
-/
import Derived.Test.YtoeoehbpahodnaaPSwapNo
import Derived.Test.YtoeoehbpahodnaaPSwapV
import Derived.Test.YtoeoehbpahodnaaRows
namespace Go.Proofs.Ytoeoehbpahodnaa
set_option linter.unusedSimpArgs false
set_option linter.unusedVariables false
set_option maxHeartbeats 600000
open Go.ChangeShapes Go.WideShapes Go.ChangeAt Go.RowKit

set_option maxRecDepth 100000 in
set_option maxHeartbeats 4000000 in
theorem swapMeans_move (n : Int) (a1 : Option Addr) (len1 cap1 : Nat) (recs : List Rec) (a2 : Option Addr) (cap2 : Nat) (ps : List Int) (a3 : Option Addr) (cap3 : Nat) (rs : List (Int × Edge)) (i j : Int) (w : World) (h1 : len1 ≤ 30) (h2 : 0 ≤ n) (h3 : n ≤ 5) (h4 : ps.length ≤ 16) (h5 : rs.length ≤ 4)
    (hrs : IsRecs w a1 len1 recs) (hps : IntsAt w a2 ps) (hro : IsRoots w a3 rs) (hpb : permB ps = true) :
    Calls Try.prog 3 #[.int .i64 n, .slice a1 len1 cap1, .slice a2 ps.length cap2, .slice a3 rs.length cap3, .int .i64 i, .int .i64 j, .bool true] w fun e w' => e = .returned (.bool true) ∧ Keeps w w' := by
  have hbu := fun (W : World) (hW : Keeps w W) => built2 n 3000 a1 len1 cap1 recs W h2 (by omega) (by omega) (by omega) (by omega) (hrs.keeps hW)
  have hof := fun (W : World) (hW : Keeps w W) => orderOf_calls a2 cap2 ps W (hps.keeps hW) (by omega)
  have hrt := fun (W : World) (hW : Keeps w W) => roots_calls a3 cap3 rs W (hro.keeps hW) (by omega)
  have hok : ∀ r ∈ rs, (0 ≤ r.1 ∧ r.1 ≤ 255) ∧ r.2.ok := fun r hr => by
    obtain ⟨k, hk⟩ := List.mem_iff_getElem?.1 hr
    exact ⟨(hro k r hk).1, (hro k r hk).2.1⟩
  obtain ⟨N, hN⟩ : ∃ N, N = rs.length := ⟨_, rfl⟩
  obtain ⟨K, hK⟩ : ∃ K, K = ps.length := ⟨_, rfl⟩
  rw [← hN] at h5 hrt ⊢
  rw [← hK] at h4 hof ⊢
  have HBU := Lib.hid hbu
  have HOF := Lib.hid hof
  have HRT := Lib.hid hrt
  have HOK := Lib.hid hok
  have HN := Lib.hid hN
  have HK := Lib.hid hK
  have HPS := Lib.hid hps
  clear hbu hof hrt hok hN hK hps hro hrs
  go_enter Try.func3, Try.ntmps3
  go_wp2_with (first | (go_at_call 6; refine (l26_alive _).mono ?_; rintro e w1 ⟨rfl, hk1⟩) | fail)
  refine (HBU.out _ (by (exact kp))).mono ?_
  rintro e w2 ⟨sb, mb, M, L, rfl, hBo, hMn, hMr, hMl, hMs⟩
  have HBo := Lib.hid hBo
  have hk2 : Keeps w w2 := (show Keeps w w1 by (exact kp)).trans hBo.keep
  have HM := Lib.hid (show M.n = n ∧ M.room = 3000 ∧ M.len ≤ len1 ∧ M.solid from ⟨hMn, hMr, hMl, hMs⟩)
  clear hBo hMn hMr hMl hMs
  go_wp2_with fail
  refine (HOF.out _ hk2).mono ?_
  rintro e w3 ⟨hk3, hres⟩
  have hk23 := hk2.trans hk3
  have HK3 := Lib.hid hk3
  rw [hpb, if_pos rfl] at hres
  obtain ⟨ob, Fo, rfl, hOr, hFo⟩ := hres
  go_wp2_with fail
  refine (HRT.out _ hk23).mono ?_
  rintro e w4 ⟨v5, v6, v7, rfl, o5, o6, o7, hk4⟩
  obtain ⟨q5, c5, rfl, -⟩ := owns_slice o5
  obtain ⟨q6, c6, rfl, -⟩ := owns_slice o6
  obtain ⟨q7, c7, rfl, -⟩ := owns_slice o7
  obtain ⟨hMn, hMr, hMl, hMs⟩ := HM.out
  obtain ⟨⟨F, G, hS, hR, hD, hF, hG⟩, hkB⟩ := HBo.out
  have hk24 := HK3.out.trans hk4
  have hS4 := hS.keeps hk24
  have hR4 := hR.keeps hk24
  have hO4 := hOr.keeps hk4
  have hB4 := HBo.out.keeps hk24
  have hDo : ∀ k, F k → ¬ Fo k := fun k g1 g2 => by have := hS.lt k g1; have := hFo k g2; omega
  have hlow : ∀ k, F k ∨ Fo k → k < w3.heap.size := fun k g => by
    rcases g with g | g
    · have := hS.lt k g; have := HK3.out.size; omega
    · exact hOr.lt k g
  have hRo := fun (W : World) (hW : Upd (fun j => F j ∨ Fo j) w4 W) => roots_at o5 HN.out hW hlow HOK.out
  have hFm := fun (W : World) (hW : Upd (fun j => F j ∨ Fo j) w4 W) => forms_at o6 HN.out hW hlow
  have hEg := fun (W : World) (hW : Upd (fun j => F j ∨ Fo j) w4 W) => edges_at o7 HN.out hW hlow HOK.out
  have hcst : ∀ s : Nat, (s : Int) + 1 < M.n → costS (s : Int) 0 ≤ 62 := fun s hs => by
    have hss : s = 0 ∨ s = 1 ∨ s = 2 ∨ s = 3 := by omega
    rcases hss with rfl | rfl | rfl | rfl <;> decide
  have hmv := move_calls (c := 62) hS4 hO4 hDo i j q5 c5 hRo (by rw [← HN.out]; omega) hcst (by decide) (fun g1 g2 g3 g4 => by
    have e1 := moveL_len i.toNat j.toNat
    have e2 : (moveL i.toNat j.toNat).length ≤ 4 := by omega
    have e3 : (moveL i.toNat j.toNat).length * rs.length ≤ 4 * 4 := Nat.mul_le_mul e2 (by rw [← HN.out]; omega)
    omega) (by omega)
  have hsame := fun (a : Option Addr) (c : Nat) (W : World) (hW : Keeps w4 W) (hI : IntsAt W a ps) => by
    have := refSame_calls a a2 c cap2 ps ps W hI (HPS.out.keeps ((hk23.trans hk4).trans hW)) (by rw [← HK.out]; omega) (by rw [← HK.out]; omega)
    rw [decide_eq_true rfl, ← HK.out] at this
    exact this
  have hrig := fun (W : World) (hW : Keeps w W) => refRight_calls a2 cap2 ps W (HPS.out.keeps hW) (by rw [← HK.out]; omega)
  have hper := fun (W : World) (hW : Keeps w4 W) => ordPerm_calls (hO4.keeps hW)
  have hsm11 := fun (W : World) (hW : Keeps w4 W) => same_both (hB4.keeps hW)
  have hmay := fun (W : World) (hW : Keeps w4 W) => rmay26_calls (hR4.keeps hW) q6 q7 c6 c7 rs (hFm W (hW.upd _)) (hEg W (hW.upd _)) (by rw [← HN.out]; omega)
  rw [hpb] at hrig
  rw [← HK.out] at hmv hrig hper
  rw [← HN.out] at hmv hmay
  have hmovd := fun (A B : Nat) (hA : A < K) (hB : B < K) (W : World) (hW : Keeps w W) => by
    have := moved_calls a2 cap2 ps W (HPS.out.keeps hW) (by rw [← HK.out]; omega) A B (by rw [← HK.out]; exact hA) (by rw [← HK.out]; exact hB)
    rw [← HK.out] at this
    exact this
  have hkw : Keeps w w4 := hk23.trans hk4
  by_cases hcode : moveCode M K i j rs = 0
  · have hKn : M.n = (K : Int) := by
      apply Classical.byContradiction
      intro hh
      unfold moveCode at hcode
      rw [if_neg hh] at hcode
      cases hcode
    have hr : ¬ (i < 0 ∨ M.n ≤ i ∨ j < 0 ∨ M.n ≤ j) := fun hh => by
      unfold moveCode at hcode
      rw [if_pos hKn, if_pos hh] at hcode
      cases hcode
    have hm0 : mayL M rs = 0 := by
      unfold moveCode at hcode
      rwa [if_pos hKn, if_neg hr] at hcode
    obtain ⟨A, rfl⟩ : ∃ A : Nat, i = (A : Int) := ⟨i.toNat, by omega⟩
    obtain ⟨B, rfl⟩ : ∃ B : Nat, j = (B : Int) := ⟨j.toNat, by omega⟩
    have hA : A < K := by omega
    have hB : B < K := by omega
    rw [hcode] at hmv
    rw [hm0] at hmay
    rw [Int.toNat_natCast, Int.toNat_natCast] at hmv
    have hke : ∀ (r : Ending) (w5 : World), AllOut F Fo w4 sb ob M ps (moveL A B) rs 62 r w5 → ∃ g, r = .returned (.tuple #[.slice (some ⟨g, 0, none⟩) N N, .int .u8 0]) ∧ Keeps w4 w4 ∧ Keeps w w5 ∧ (∀ W, Keeps w5 W → Calls Try.prog 15 #[.pointer (some ⟨mb, 0, none⟩), .slice q6 N c6, .slice q7 N c7] W fun e w' => e = .returned (.int .i64 0) ∧ Keeps W w') ∧
        (∀ (am : Option Addr) (cm : Nat) (W : World), Keeps w5 W → IntsAt W am (runL ps (moveL A B)) → Calls Try.prog 19 #[.pointer (some ⟨sb, 0, none⟩), .pointer (some ⟨mb, 0, none⟩), .pointer (some ⟨ob, 0, none⟩), .slice a2 K cap2, .slice am K cm, .slice q6 N c6, .slice q7 N c7, .slice (some ⟨g, 0, none⟩) N N] W fun e w' => e = .returned (.bool true) ∧ Keeps W w') := by
      rintro r w5 ⟨g, es, M', F', rfl, hRow, hg, hRO, hS5, hF5, hgF, hO5, hU, hWt⟩
      have hkU : Keeps w w5 := hkw.new hU (fun k hk => by
        rcases hk with hk | hk
        · have := hF k hk; have := (show Keeps w w1 by (exact kp)).size; omega
        · have := hFo k hk; have := hk2.size; omega)
      have hR5 : RefRep G w5 mb M L := hR4.keep hU (fun k hk hh => by
        rcases hh with hh | hh
        · exact hD k hh hk
        · have := hFo k hh; have := hR.lt k hk; omega)
      have hXl : es.length = rs.length := hRO.1
      have hKl : (runL ps (moveL A B)).length = ps.length := runL_len _ _
      refine ⟨g, by rw [HN.out], Keeps.refl _, hkU, fun W hW => ?_, fun am cm W hW hI => ?_⟩
      · have := rmay26_calls (hR5.keeps hW) q6 q7 c6 c7 rs ((hFm w5 hU).keeps hW) ((hEg w5 hU).keeps hW) (by rw [← HN.out]; omega)
        rw [hm0, ← HN.out] at this
        exact this
      · have hfull := hWt.wf.full
        have hroom := hWt.room
        have hxok : ∀ e ∈ es, e.ok := fun e he => by
          obtain ⟨k, hk⟩ := List.mem_iff_getElem?.1 he
          have hki := (List.getElem?_eq_some_iff.1 hk).1
          exact (hRO.2 k _ e (List.getElem?_eq_getElem (by omega)) hk).ok
        have := kept_calls (ss := moveL A B) (qs := runL ps (moveL A B)) (hS5.keeps hW) (hR5.keeps hW) (hO5.keeps hW) hWt.ext (hWt.solid hMs) (by omega) (by rw [hKn, HK.out]) hpb (fun s hs => by have := moveL_mem2 hA hB hs; rw [← HK.out]; exact this) rfl a2 am q6 q7 (some ⟨g, 0, none⟩) cap2 cm c6 c7 N (HPS.out.keeps (hkU.trans hW)) hI ((hFm w5 hU).keeps hW) ((hEg w5 hU).keeps hW) ((hRow.at hxok).keeps hW) (by rw [← HN.out]; omega) (mayL_zero hm0) hRO
        rw [hXl, hKl, ← HK.out, ← HN.out] at this
        exact this
    have hnk : n = (K : Int) := hMn.symm.trans hKn
    have hA2 : ¬ K ≤ A := by omega
    have hB2 : ¬ K ≤ B := by omega
    have HMV := Lib.hid hmv
    have HKE := Lib.hid hke
    have HMD := Lib.hid hmovd
    have HRG := Lib.hid hrig
    clear hmv hke hmovd hrig hsame hper hsm11 hmay hcst hRo hFm hEg hlow hDo hB4 hO4 hR4 hS4 hS hR hD hF hG hkB o5 o6 o7 hcode hMn hMr hMl hMs hKn hr hm0 HBo hOr hFo HOF HRT HBU
    subst hnk
    go_wp2_with fail
    refine HMV.out.mono ?_
    rintro r w5 hh
    rcases hh with ⟨hc, _⟩ | ⟨_, hh⟩
    · exact absurd rfl hc
    obtain ⟨g, rfl, -, hk5, hmy, hkp⟩ := HKE.out _ _ hh
    have HMY := Lib.hid hmy
    have HKP := Lib.hid hkp
    clear hh hmy hkp
    go_wp2_with fail
    refine (HMD.out A B hA hB _ hk5).mono ?_
    rintro e w51 ⟨am, cm, rfl, hrm, hk51⟩
    have HIM := Lib.hid hrm
    clear hrm
    go_wp2_with fail
    refine (HRG.out _ (hk5.trans hk51)).mono ?_
    rintro e w6 ⟨rfl, rfl⟩
    go_wp2_with fail
    refine (HMY.out _ hk51).mono ?_
    rintro e w62 ⟨rfl, hk62⟩
    have hk53 := hk51.trans hk62
    go_wp2_with fail
    refine (HKP.out am cm _ hk53 (HIM.out.ints.keeps hk62)).mono ?_
    rintro e w7 ⟨rfl, hk7⟩
    go_wp2_with fail
    go_ret
    exact ⟨rfl, hk5.trans (hk53.trans hk7)⟩
  · have hmv2 : ∀ W, Keeps w4 W → W = w4 → Calls Try.prog 10 #[.pointer (some ⟨sb, 0, none⟩), .pointer (some ⟨ob, 0, none⟩), .int .i64 i, .int .i64 j, .slice q5 N c5] W fun e w' => e = .returned (.tuple #[.slice none 0 0, .int .u8 (moveCode M K i j rs)]) ∧ Keeps w4 w' := fun W _ hW => by
      subst hW
      refine hmv.mono fun r w' hh => ?_
      rcases hh with ⟨_, he, hk⟩ | ⟨hc, _⟩
      · exact ⟨he, hk⟩
      · exact absurd hc hcode
    have hmv3 := hmv2 w4 (Keeps.refl _) rfl
    have HRG := Lib.hid hrig
    have HPE := Lib.hid hper
    have HSA := Lib.hid hsame
    have HS1 := Lib.hid hsm11
    have HMD := Lib.hid hmovd
    have HCD := Lib.hid hcode
    have hmn : M.n = n := hMn
    by_cases hKn : n = (K : Int)
    · by_cases hr : i < 0 ∨ n ≤ i ∨ j < 0 ∨ n ≤ j
      · have e1 : moveCode M K i j rs = 3 := by unfold moveCode; rw [if_pos (hmn.trans hKn), hmn, if_pos hr]
        rw [e1] at hmv3
        have HMV := Lib.hid hmv3
        have HR := Lib.hid hr
        clear hmv hmv2 hmv3 hsame hrig hper hsm11 hmay hmovd hcst hRo hFm hEg hlow hDo hB4 hO4 hR4 hS4 hS hR hD hF hG hkB o5 o6 o7 hcode hMn hMr hMl hMs hmn hr e1 HCD HBo hOr hFo HOF HRT HBU
        subst hKn
        by_cases g1 : i < 0
        · go_wp2_with fail
          refine HMV.out.mono ?_
          rintro e w5 ⟨rfl, hk5⟩
          go_wp2_with fail
          refine (HRG.out _ (hkw.trans hk5)).mono ?_
          rintro e w6 ⟨rfl, rfl⟩
          go_wp2_with fail
          refine (HPE.out _ hk5).mono ?_
          rintro e w7 ⟨a7, c7, rfl, hr7, hk7⟩
          have hk57 := hk5.trans hk7
          go_wp2_with fail
          refine (HSA.out a7 c7 _ hk57 hr7.ints).mono ?_
          rintro e w8 ⟨rfl, hk8⟩
          have hk58 := hk57.trans hk8
          go_wp2_with fail
          refine (HS1.out _ hk58).mono ?_
          rintro e w9 ⟨rfl, hk9⟩
          go_wp2_with fail
          go_ret
          exact ⟨rfl, hkw.trans (hk58.trans hk9)⟩
        by_cases g2 : (K : Int) ≤ i
        · go_wp2_with fail
          refine HMV.out.mono ?_
          rintro e w5 ⟨rfl, hk5⟩
          go_wp2_with fail
          refine (HRG.out _ (hkw.trans hk5)).mono ?_
          rintro e w6 ⟨rfl, rfl⟩
          go_wp2_with fail
          refine (HPE.out _ hk5).mono ?_
          rintro e w7 ⟨a7, c7, rfl, hr7, hk7⟩
          have hk57 := hk5.trans hk7
          go_wp2_with fail
          refine (HSA.out a7 c7 _ hk57 hr7.ints).mono ?_
          rintro e w8 ⟨rfl, hk8⟩
          have hk58 := hk57.trans hk8
          go_wp2_with fail
          refine (HS1.out _ hk58).mono ?_
          rintro e w9 ⟨rfl, hk9⟩
          go_wp2_with fail
          go_ret
          exact ⟨rfl, hkw.trans (hk58.trans hk9)⟩
        by_cases g3 : j < 0
        · go_wp2_with fail
          refine HMV.out.mono ?_
          rintro e w5 ⟨rfl, hk5⟩
          go_wp2_with fail
          refine (HRG.out _ (hkw.trans hk5)).mono ?_
          rintro e w6 ⟨rfl, rfl⟩
          go_wp2_with fail
          refine (HPE.out _ hk5).mono ?_
          rintro e w7 ⟨a7, c7, rfl, hr7, hk7⟩
          have hk57 := hk5.trans hk7
          go_wp2_with fail
          refine (HSA.out a7 c7 _ hk57 hr7.ints).mono ?_
          rintro e w8 ⟨rfl, hk8⟩
          have hk58 := hk57.trans hk8
          go_wp2_with fail
          refine (HS1.out _ hk58).mono ?_
          rintro e w9 ⟨rfl, hk9⟩
          go_wp2_with fail
          go_ret
          exact ⟨rfl, hkw.trans (hk58.trans hk9)⟩
        have g4 : (K : Int) ≤ j := by have := HR.out; omega
        go_wp2_with fail
        refine HMV.out.mono ?_
        rintro e w5 ⟨rfl, hk5⟩
        go_wp2_with fail
        refine (HRG.out _ (hkw.trans hk5)).mono ?_
        rintro e w6 ⟨rfl, rfl⟩
        go_wp2_with fail
        refine (HPE.out _ hk5).mono ?_
        rintro e w7 ⟨a7, c7, rfl, hr7, hk7⟩
        have hk57 := hk5.trans hk7
        go_wp2_with fail
        refine (HSA.out a7 c7 _ hk57 hr7.ints).mono ?_
        rintro e w8 ⟨rfl, hk8⟩
        have hk58 := hk57.trans hk8
        go_wp2_with fail
        refine (HS1.out _ hk58).mono ?_
        rintro e w9 ⟨rfl, hk9⟩
        go_wp2_with fail
        go_ret
        exact ⟨rfl, hkw.trans (hk58.trans hk9)⟩
      · have e1 : moveCode M K i j rs = mayL M rs := by unfold moveCode; rw [if_pos (hmn.trans hKn), hmn, if_neg hr]
        rw [e1] at hmv3 hcode
        have hrg := mayL_range M rs
        obtain ⟨c, hc⟩ : ∃ c, c = mayL M rs := ⟨_, rfl⟩
        rw [← hc] at hmv3 hcode hmay hrg
        have HMV := Lib.hid hmv3
        have HMY := Lib.hid hmay
        have c0 : (c != 0) = true := by simp [hcode]
        have c1 : ¬ c = 0 := hcode
        have c2 : (c == 0) = false := by simp [hcode]
        obtain ⟨A, rfl⟩ : ∃ A : Nat, i = (A : Int) := ⟨i.toNat, by omega⟩
        obtain ⟨B, rfl⟩ : ∃ B : Nat, j = (B : Int) := ⟨j.toNat, by omega⟩
        have hA : A < K := by omega
        have hB : B < K := by omega
        have hA2 : ¬ K ≤ A := by omega
        have hB2 : ¬ K ≤ B := by omega
        clear hmv hmv2 hmv3 hsame hrig hper hsm11 hmay hmovd hcst hRo hFm hEg hlow hDo hB4 hO4 hR4 hS4 hS hR hD hF hG hkB o5 o6 o7 hcode hMn hMr hMl hMs hmn e1 hc hr HCD HBo hOr hFo HOF HRT HBU
        subst hKn
        go_wp2_with fail
        refine HMV.out.mono ?_
        rintro e w5 ⟨rfl, hk5⟩
        go_wp2_with fail
        refine (HMD.out A B hA hB _ (hkw.trans hk5)).mono ?_
        rintro e w51 ⟨am, cm, rfl, -, hk51⟩
        have hk52 := hk5.trans hk51
        go_wp2_with fail
        refine (HRG.out _ (hkw.trans hk52)).mono ?_
        rintro e w6 ⟨rfl, rfl⟩
        go_wp2_with fail
        refine (HMY.out _ hk52).mono ?_
        rintro e w62 ⟨rfl, hk62⟩
        have hk53 := hk52.trans hk62
        go_wp2_with fail
        refine (HPE.out _ hk53).mono ?_
        rintro e w7 ⟨a7, c7, rfl, hr7, hk7⟩
        have hk57 := hk53.trans hk7
        go_wp2_with fail
        refine (HSA.out a7 c7 _ hk57 hr7.ints).mono ?_
        rintro e w8 ⟨rfl, hk8⟩
        have hk58 := hk57.trans hk8
        go_wp2_with fail
        refine (HS1.out _ hk58).mono ?_
        rintro e w9 ⟨rfl, hk9⟩
        go_wp2_with fail
        go_ret
        exact ⟨rfl, hkw.trans (hk58.trans hk9)⟩
    · have e1 : moveCode M K i j rs = 1 := by unfold moveCode; rw [if_neg (by rw [hmn]; exact hKn)]
      rw [e1] at hmv3
      have HMV := Lib.hid hmv3
      clear hmv hmv2 hmv3 hsame hrig hper hsm11 hmay hmovd hcst hRo hFm hEg hlow hDo hB4 hO4 hR4 hS4 hS hR hD hF hG hkB o5 o6 o7 hcode hMn hMr hMl hMs hmn e1 HCD HBo hOr hFo HOF HRT HBU
      have hKn2 : ¬ (K : Int) = n := fun h => hKn h.symm
      clear hKn
      by_cases g1 : i < 0
      · go_wp2_with fail
        refine HMV.out.mono ?_
        rintro e w5 ⟨rfl, hk5⟩
        go_wp2_with fail
        refine (HRG.out _ (hkw.trans hk5)).mono ?_
        rintro e w6 ⟨rfl, rfl⟩
        go_wp2_with fail
        refine (HPE.out _ hk5).mono ?_
        rintro e w7 ⟨a7, c7, rfl, hr7, hk7⟩
        have hk57 := hk5.trans hk7
        go_wp2_with fail
        refine (HSA.out a7 c7 _ hk57 hr7.ints).mono ?_
        rintro e w8 ⟨rfl, hk8⟩
        have hk58 := hk57.trans hk8
        go_wp2_with fail
        refine (HS1.out _ hk58).mono ?_
        rintro e w9 ⟨rfl, hk9⟩
        go_wp2_with fail
        go_ret
        exact ⟨rfl, hkw.trans (hk58.trans hk9)⟩
      by_cases g2 : n ≤ i
      · go_wp2_with fail
        refine HMV.out.mono ?_
        rintro e w5 ⟨rfl, hk5⟩
        go_wp2_with fail
        refine (HRG.out _ (hkw.trans hk5)).mono ?_
        rintro e w6 ⟨rfl, rfl⟩
        go_wp2_with fail
        refine (HPE.out _ hk5).mono ?_
        rintro e w7 ⟨a7, c7, rfl, hr7, hk7⟩
        have hk57 := hk5.trans hk7
        go_wp2_with fail
        refine (HSA.out a7 c7 _ hk57 hr7.ints).mono ?_
        rintro e w8 ⟨rfl, hk8⟩
        have hk58 := hk57.trans hk8
        go_wp2_with fail
        refine (HS1.out _ hk58).mono ?_
        rintro e w9 ⟨rfl, hk9⟩
        go_wp2_with fail
        go_ret
        exact ⟨rfl, hkw.trans (hk58.trans hk9)⟩
      by_cases g3 : j < 0
      · go_wp2_with fail
        refine HMV.out.mono ?_
        rintro e w5 ⟨rfl, hk5⟩
        go_wp2_with fail
        refine (HRG.out _ (hkw.trans hk5)).mono ?_
        rintro e w6 ⟨rfl, rfl⟩
        go_wp2_with fail
        refine (HPE.out _ hk5).mono ?_
        rintro e w7 ⟨a7, c7, rfl, hr7, hk7⟩
        have hk57 := hk5.trans hk7
        go_wp2_with fail
        refine (HSA.out a7 c7 _ hk57 hr7.ints).mono ?_
        rintro e w8 ⟨rfl, hk8⟩
        have hk58 := hk57.trans hk8
        go_wp2_with fail
        refine (HS1.out _ hk58).mono ?_
        rintro e w9 ⟨rfl, hk9⟩
        go_wp2_with fail
        go_ret
        exact ⟨rfl, hkw.trans (hk58.trans hk9)⟩
      by_cases g4 : n ≤ j
      · go_wp2_with fail
        refine HMV.out.mono ?_
        rintro e w5 ⟨rfl, hk5⟩
        go_wp2_with fail
        refine (HRG.out _ (hkw.trans hk5)).mono ?_
        rintro e w6 ⟨rfl, rfl⟩
        go_wp2_with fail
        refine (HPE.out _ hk5).mono ?_
        rintro e w7 ⟨a7, c7, rfl, hr7, hk7⟩
        have hk57 := hk5.trans hk7
        go_wp2_with fail
        refine (HSA.out a7 c7 _ hk57 hr7.ints).mono ?_
        rintro e w8 ⟨rfl, hk8⟩
        have hk58 := hk57.trans hk8
        go_wp2_with fail
        refine (HS1.out _ hk58).mono ?_
        rintro e w9 ⟨rfl, hk9⟩
        go_wp2_with fail
        go_ret
        exact ⟨rfl, hkw.trans (hk58.trans hk9)⟩
      go_wp2_with fail
      refine HMV.out.mono ?_
      rintro e w5 ⟨rfl, hk5⟩
      go_wp2_with fail
      refine (HRG.out _ (hkw.trans hk5)).mono ?_
      rintro e w6 ⟨rfl, rfl⟩
      go_wp2_with fail
      refine (HPE.out _ hk5).mono ?_
      rintro e w7 ⟨a7, c7, rfl, hr7, hk7⟩
      have hk57 := hk5.trans hk7
      go_wp2_with fail
      refine (HSA.out a7 c7 _ hk57 hr7.ints).mono ?_
      rintro e w8 ⟨rfl, hk8⟩
      have hk58 := hk57.trans hk8
      go_wp2_with fail
      refine (HS1.out _ hk58).mono ?_
      rintro e w9 ⟨rfl, hk9⟩
      go_wp2_with fail
      go_ret
      exact ⟨rfl, hkw.trans (hk58.trans hk9)⟩

end Go.Proofs.Ytoeoehbpahodnaa
