/-
  Proved: the statement ConvertAsks, for every input.
-/
import Derived.Test.YtiacdpoldgfpbaaPCEach
import Derived.Test.YtiacdpoldgfpbaaPCSame
import Derived.Test.YtiacdpoldgfpbaaRows
namespace Go.Proofs.Ytiacdpoldgfpbaa
set_option linter.unusedSimpArgs false
set_option linter.unusedVariables false
set_option maxHeartbeats 600000
open Go.ChangeShapes Go.WideShapes Go.ChangeAt Go.RowKit

set_option maxRecDepth 100000 in
theorem convertAsks_out (n : Int) (al : Option Addr) (len cap : Nat) (f g : Int) (a b : Edge) (w : World) (h : 40 < len ∨ n < 0 ∨ 6 < n) :
    Calls Try.prog 4 #[.int .i64 n, .slice al len cap, .int .u8 f, .int .u8 g, .agg #[.int .u8 a.tag, .int .u32 a.to], .agg #[.int .u8 b.tag, .int .u32 b.to]] w fun e w' => e = .returned (.bool true) ∧ Keeps w w' := by
  have H := Lib.hid h
  clear h
  go_enter Try.func4, Try.ntmps4
  go_wp2_with (first | (go_at_call 10; refine (l25_alive _).mono ?_; rintro e w1 ⟨rfl, hb⟩; have y0 := hb.cell (a := ⟨w.heap.size, 0, none⟩) (v := .int .u8 a.tag) (by simp [go_sem]); have y1 := hb.cell (a := ⟨w.heap.size, 1, none⟩) (v := .int .u32 a.to) (by simp [go_sem]); have z0 := hb.cell (a := ⟨w.heap.size + 1, 0, none⟩) (v := .int .u8 b.tag) (by simp [go_sem]); have z1 := hb.cell (a := ⟨w.heap.size + 1, 1, none⟩) (v := .int .u32 b.to) (by simp [go_sem]); have hk : Keeps w w1 := (by (exact kp)); have hsz := hb.size; simp only [World.size_alloc] at hsz) | fail)
  all_goals first | (go_ret; exact ⟨rfl, by (exact kp)⟩) | (exfalso; have := H.out; omega)

theorem tabA {w : World} {B : Nat} {bs : List Bool} (h : BoolsAt w B bs) : TabAt w B 0 bs := fun i b hb => by
  rw [Nat.zero_add]
  exact h.cell hb

theorem boolsK {w w' : World} {B : Nat} {bs : List Bool} (h : BoolsAt w B bs) (hk : Keeps w w') : BoolsAt w' B bs := h.keep (Keeps.upd hk (fun _ => False)) (fun h => h)

set_option maxRecDepth 100000 in
set_option maxHeartbeats 8000000 in
theorem convertAsks_in (n : Int) (al : Option Addr) (len cap : Nat) (rs : List Rec) (f g : Int) (a b : Edge) (w : World) (ha : a.ok) (hb : b.ok) (hf8 : 0 ≤ f ∧ f ≤ 255) (h1 : len ≤ 40) (h2 : 0 ≤ n) (h3 : n ≤ 6) (hrs : IsRecs w al len rs) :
    Calls Try.prog 4 #[.int .i64 n, .slice al len cap, .int .u8 f, .int .u8 g, .agg #[.int .u8 a.tag, .int .u32 a.to], .agg #[.int .u8 b.tag, .int .u32 b.to]] w fun e w' => e = .returned (.bool true) ∧ Keeps w w' := by
  have HR := Lib.hid hrs
  have HA := Lib.hid ha
  have HB := Lib.hid hb
  clear hrs ha hb
  go_enter Try.func4, Try.ntmps4
  go_wp2_with (first | (go_at_call 10; refine (l25_alive _).mono ?_; rintro e w1 ⟨rfl, hb⟩; have y0 := hb.cell (a := ⟨w.heap.size, 0, none⟩) (v := .int .u8 a.tag) (by simp [go_sem]); have y1 := hb.cell (a := ⟨w.heap.size, 1, none⟩) (v := .int .u32 a.to) (by simp [go_sem]); have z0 := hb.cell (a := ⟨w.heap.size + 1, 0, none⟩) (v := .int .u8 b.tag) (by simp [go_sem]); have z1 := hb.cell (a := ⟨w.heap.size + 1, 1, none⟩) (v := .int .u32 b.to) (by simp [go_sem]); have hk : Keeps w w1 := (by (exact kp)); have hsz := hb.size; simp only [World.size_alloc] at hsz) | fail)
  refine (built' n 1000 al len cap rs _ h2 (by omega) (by omega) (by omega) (by omega) (HR.out.keeps hk)).mono ?_
  rintro e w2 ⟨sb, mb, M, L, rfl, hBo, hMn, hMr, hMl⟩
  subst hMn
  have HBB := Lib.hid hBo
  obtain ⟨⟨F, G, q1, q2, q3, q4, q5⟩, q6⟩ := hBo
  replace y0 := q6.cell y0
  replace y1 := q6.cell y1
  replace z0 := q6.cell z0
  replace z1 := q6.cell z1
  have hkw : Keeps w w2 := hk.trans q6
  have HKW := Lib.hid hkw
  have hM25 := fun (W : World) (hW : Keeps w2 W) => rmay25_calls (q2.keeps hW) f g a HA.out
  have hCS := fun (W : World) (hW : Keeps w2 W) => convsame_calls (q1.keeps hW) f g a b HA.out HB.out
  have hSm := fun (W : World) (hW : Keeps w2 W) => same_both (HBB.out.keeps hW)
  have hMb := fun (W : World) (hW : Keeps w2 W) => rmay_calls (q2.keeps hW) g b 0 HB.out
  have HSm := Lib.hid hSm
  have HSz := Lib.hid hsz
  clear hSm hkw
  by_cases c0 : csC M f g a b = 0
  · have c1 : convC M f g a = 0 := by
      unfold csC at c0
      split at c0
      · assumption
      · rename_i hh
        exact absurd c0 hh
    have l2 : M.leads g b 0 = true := by
      cases hl : M.leads g b 0 with
      | true => rfl
      | false => unfold csC at c0; rw [if_pos c1, if_pos hl] at c0; cases c0
    obtain ⟨hf, hg, hl⟩ := convC_zero c1
    have hm2 : mayC M g b 0 = 0 := by
      unfold mayC
      have hgb : isFormB g = true := by unfold isFormB; simp [hg.1, hg.2]
      rw [if_neg (by rw [hgb]; simp), if_neg (show ¬ ((0 : Int) < 0 ∨ M.n < 0) by omega), if_neg (by rw [l2]; simp)]
    rw [c0] at hCS
    rw [c1] at hM25
    rw [hm2] at hMb
    obtain ⟨k, hk⟩ : ∃ k : Nat, M.n = (k : Int) := ⟨M.n.toNat, by omega⟩
    have hlenA : (tabE M f a 0).length = 2 ^ k := by rw [tabE_len]; congr 1; omega
    have hlenB : (tabE M g b 0).length = 2 ^ k := by rw [tabE_len]; congr 1; omega
    have hTA : ∀ W, Keeps w2 W → Calls Try.prog 20 #[.pointer (some ⟨mb, 0, none⟩), .int .u8 f, .agg #[.int .u8 a.tag, .int .u32 a.to], .int .i64 0] W fun r w' => ∃ B, r = .returned (.slice (some ⟨B, 0, none⟩) (2 ^ k) (2 ^ k)) ∧ W.heap.size ≤ B ∧ BoolsAt w' B (tabE M f a 0) ∧ Keeps W w' :=
      fun W hW => table_calls (q2.keeps hW) f hf a HA.out k 0 (by omega) (by show M.leads f a ((0 : Nat) : Int) = true; exact hl)
    have hTB : ∀ W, Keeps w2 W → Calls Try.prog 20 #[.pointer (some ⟨mb, 0, none⟩), .int .u8 g, .agg #[.int .u8 b.tag, .int .u32 b.to], .int .i64 0] W fun r w' => ∃ B, r = .returned (.slice (some ⟨B, 0, none⟩) (2 ^ k) (2 ^ k)) ∧ W.heap.size ≤ B ∧ BoolsAt w' B (tabE M g b 0) ∧ Keeps W w' :=
      fun W hW => table_calls (q2.keeps hW) g hg b HB.out k 0 (by omega) (by show M.leads g b ((0 : Nat) : Int) = true; exact l2)
    obtain ⟨ta, hta⟩ : ∃ ta, ta = tabE M f a 0 := ⟨_, rfl⟩
    obtain ⟨tb, htb⟩ : ∃ tb, tb = tabE M g b 0 := ⟨_, rfl⟩
    rw [← hta] at hTA hCS hlenA
    rw [← htb] at hTB hCS hlenB
    have h64 : 2 ^ k ≤ 2 ^ 6 := Nat.pow_le_pow_right (by decide) (by omega)
    have e64 : (2 : Nat) ^ 6 = 64 := rfl
    rw [e64] at h64
    obtain ⟨p, hp⟩ : ∃ p, p = 2 ^ k := ⟨_, rfl⟩
    rw [← hp] at hTA hTB hlenA hlenB h64
    have hbb : sameL ta tb = decide (ta = tb) := by
      rw [Bool.eq_iff_iff]
      simp [sameL_iff]
    have hRS : ∀ (B1 B2 : Nat) (W : World), BoolsAt W B1 ta → BoolsAt W B2 tb → Calls Try.prog 19 #[.slice (some ⟨B1, 0, none⟩) p p, .slice (some ⟨B2, 0, none⟩) p p] W fun e w' => e = .returned (.bool (decide (ta = tb))) ∧ Keeps W w' := fun B1 B2 W g1 g2 => by
      have := same_calls p p W (tabA g1) (tabA g2) (by omega) (by omega)
      rw [hlenA, hlenB, hbb] at this
      exact this
    obtain ⟨T, hT⟩ : ∃ T, T = decide (ta = tb) := ⟨_, rfl⟩
    rw [← hT] at hRS hCS
    rw [show (decide ((0 : Int) = 0) && T) = T by simp] at hCS
    have hTT : (T == T) = true := by cases T <;> rfl
    have HTA := Lib.hid hTA
    have HTB := Lib.hid hTB
    have HRS := Lib.hid hRS
    have HCS := Lib.hid hCS
    have HM25 := Lib.hid hM25
    have HMb := Lib.hid hMb
    clear hTA hTB hRS hCS hM25 hMb hlenA hlenB hta htb hT hbb hp e64 q1 q2 q3 q4 q5 hf hg hl hm2 c1 l2 c0 hk hMl hMr h2 h3 hf8 HBB
    go_wp2_with fail
    refine (HCS.out _ (Keeps.refl _)).mono ?_
    rintro e w3 ⟨rfl, hk3⟩
    replace y0 := hk3.cell y0
    replace y1 := hk3.cell y1
    replace z0 := hk3.cell z0
    replace z1 := hk3.cell z1
    go_wp2_with fail
    refine (HM25.out _ hk3).mono ?_
    rintro e w4 ⟨rfl, hk4⟩
    replace y0 := hk4.cell y0
    replace y1 := hk4.cell y1
    replace z0 := hk4.cell z0
    replace z1 := hk4.cell z1
    have hk24 := hk3.trans hk4
    clear hk3 hk4
    go_wp2_with fail
    refine (HMb.out _ hk24).mono ?_
    rintro e w5 ⟨rfl, hk5⟩
    replace y0 := hk5.cell y0
    replace y1 := hk5.cell y1
    replace z0 := hk5.cell z0
    replace z1 := hk5.cell z1
    have hk25 := hk24.trans hk5
    clear hk24 hk5
    go_wp2_with fail
    refine (HSm.out _ hk25).mono ?_
    rintro e w6 ⟨rfl, hk6⟩
    replace y0 := hk6.cell y0
    replace y1 := hk6.cell y1
    replace z0 := hk6.cell z0
    replace z1 := hk6.cell z1
    have hk26 := hk25.trans hk6
    clear hk25 hk6
    go_wp2_with fail
    go_region_held3 (fun w' => w'.cell? ⟨w.heap.size, 0, none⟩ = some (.int .u8 a.tag) ∧ w'.cell? ⟨w.heap.size, 1, none⟩ = some (.int .u32 a.to) ∧ w'.cell? ⟨w.heap.size + 1, 0, none⟩ = some (.int .u8 b.tag) ∧ w'.cell? ⟨w.heap.size + 1, 1, none⟩ = some (.int .u32 b.to)) (go_keep) ((first
      | (go_at_call 20; first
          | (with_reducible refine (HTA.out _ (by (exact kp))).mono ?_; rintro e7 w7 ⟨B1, rfl, -, hB1, hk7⟩; have y0 := hk7.cell (a := ⟨w.heap.size, 0, none⟩) (v := .int .u8 a.tag) (by go_keep); have y1 := hk7.cell (a := ⟨w.heap.size, 1, none⟩) (v := .int .u32 a.to) (by go_keep); have z0 := hk7.cell (a := ⟨w.heap.size + 1, 0, none⟩) (v := .int .u8 b.tag) (by go_keep); have z1 := hk7.cell (a := ⟨w.heap.size + 1, 1, none⟩) (v := .int .u32 b.to) (by go_keep))
          | (with_reducible refine (HTB.out _ (by (exact kp))).mono ?_; rintro e8 w8 ⟨B2, rfl, -, hB2, hk8⟩; have y0 := hk8.cell (a := ⟨w.heap.size, 0, none⟩) (v := .int .u8 a.tag) (by go_keep); have y1 := hk8.cell (a := ⟨w.heap.size, 1, none⟩) (v := .int .u32 a.to) (by go_keep); have z0 := hk8.cell (a := ⟨w.heap.size + 1, 0, none⟩) (v := .int .u8 b.tag) (by go_keep); have z1 := hk8.cell (a := ⟨w.heap.size + 1, 1, none⟩) (v := .int .u32 b.to) (by go_keep)))
      | (go_at_call 19; refine (HRS.out B1 B2 _ (boolsK hB1 (show Keeps w7 _ by (exact kp))) (boolsK hB2 (show Keeps w8 _ by (exact kp)))).mono ?_; rintro e9 w9 ⟨rfl, hk9⟩; have y0 := hk9.cell (a := ⟨w.heap.size, 0, none⟩) (v := .int .u8 a.tag) (by go_keep); have y1 := hk9.cell (a := ⟨w.heap.size, 1, none⟩) (v := .int .u32 a.to) (by go_keep); have z0 := hk9.cell (a := ⟨w.heap.size + 1, 0, none⟩) (v := .int .u8 b.tag) (by go_keep); have z1 := hk9.cell (a := ⟨w.heap.size + 1, 1, none⟩) (v := .int .u32 b.to) (by go_keep))))
    all_goals (try go_wp2_with fail)
    all_goals go_ret
    all_goals exact ⟨rfl, by have hkk := HKW.out; (exact kp)⟩
  · have hcr : 0 ≤ csC M f g a b ∧ csC M f g a b ≤ 4 := by
      have := convC_range M f g a
      unfold csC
      split
      · split <;> decide
      · exact this
    have hown := fun (W : World) (G' : Nat → Prop) (hW : RefRep G' W mb M L) => rmay_calls hW f a 0 HA.out
    have hor := mayC_range M f a 0
    have hc1 : convC M f 1 a = mayC M f a 0 := by
      rw [convC_may q1.wf f 1 a]
      split
      · rename_i hc
        rcases hc with hc | hc
        · unfold mayC
          rw [if_pos hc]
        · cases hc
      · rfl
    -- what the code is, and whether the second edge is asked
    have hcode : (convC M f g a = 0 ∧ csC M f g a b = 1 ∧ mayC M g b 0 = 1 ∧ mayC M f a 0 = 0) ∨ (convC M f g a ≠ 0 ∧ csC M f g a b = convC M f g a) := by
      by_cases c1 : convC M f g a = 0
      · left
        have l2 : M.leads g b 0 = false := by
          cases hl : M.leads g b 0 with
          | false => rfl
          | true => unfold csC at c0; rw [if_pos c1, if_neg (by rw [hl]; simp)] at c0; exact absurd rfl c0
        obtain ⟨hf, hg, hl⟩ := convC_zero c1
        refine ⟨c1, by unfold csC; rw [if_pos c1, if_pos l2], ?_, ?_⟩
        · unfold mayC
          have hgb : isFormB g = true := by unfold isFormB; simp [hg.1, hg.2]
          rw [if_neg (by rw [hgb]; simp), if_neg (show ¬ ((0 : Int) < 0 ∨ M.n < 0) by omega), if_pos l2]
        · unfold mayC
          have hfb : isFormB f = true := by unfold isFormB; simp [hf.1, hf.2]
          rw [if_neg (by rw [hfb]; simp), if_neg (show ¬ ((0 : Int) < 0 ∨ M.n < 0) by omega), if_neg (by rw [hl]; simp)]
      · right
        exact ⟨c1, by unfold csC; rw [if_neg c1]⟩
    have hea := fun (hz : mayC M f a 0 = 0) (W : World) (hW : Keeps w2 W) => each_calls (q1.keeps hW) f a HA.out hf8 h2 h3 (by omega) (by omega) (hc1.trans hz)
    have heb := fun (hz : mayC M f a 0 ≠ 0) (W : World) (hW : Keeps w2 W) => each_bad (q1.keeps hW) f a HA.out hf8 (by omega) (by rw [hc1]; exact hz)
    rw [hc1] at heb
    have HEA := Lib.hid hea
    have HQ2 := Lib.hid q2
    have HQ3 := Lib.hid q3
    have HQ4 := Lib.hid q4
    obtain ⟨c, hc⟩ : ∃ c, c = csC M f g a b := ⟨_, rfl⟩
    obtain ⟨d, hd⟩ : ∃ d, d = convC M f g a := ⟨_, rfl⟩
    obtain ⟨b2, hb2⟩ : ∃ b2, b2 = mayC M g b 0 := ⟨_, rfl⟩
    obtain ⟨o, ho⟩ : ∃ o, o = mayC M f a 0 := ⟨_, rfl⟩
    rw [← hc] at hCS hcode hcr c0
    rw [← hd] at hM25 hcode
    rw [← hb2] at hMb hcode
    rw [← ho] at hown hor hcode heb
    have HEB := Lib.hid heb
    rw [decide_eq_false c0, Bool.false_and] at hCS
    have HCS := Lib.hid hCS
    have HM25 := Lib.hid hM25
    have HMb := Lib.hid hMb
    have HO := Lib.hid hown
    have HOO := Lib.hid ho
    have l0 : w.heap.size < w2.heap.size := lt_of_cell y0
    clear hown hea heb hM25 hCS hMb hc hd hb2 ho hc1 q1 q2 q3 q4 q5 hMl hMr h2 h3 hf8 HBB
    have g0 : (c == 0) = false := by simp [c0]
    go_wp2_with fail
    refine (HCS.out _ (Keeps.refl _)).mono ?_
    rintro e w3 ⟨rfl, hk3⟩
    replace y0 := hk3.cell y0
    replace y1 := hk3.cell y1
    replace z0 := hk3.cell z0
    replace z1 := hk3.cell z1
    go_wp2_with fail
    refine (HM25.out _ hk3).mono ?_
    rintro e w4 ⟨rfl, hk4⟩
    replace y0 := hk4.cell y0
    replace y1 := hk4.cell y1
    replace z0 := hk4.cell z0
    replace z1 := hk4.cell z1
    have hk24 := hk3.trans hk4
    clear hk3 hk4
    have hto : ∃ W, ∃ hW : Keeps w2 W, True := ⟨_, hk24, trivial⟩
    clear hto
    rcases hcode with ⟨rfl, rfl, rfl, rfl⟩ | ⟨d0, rfl⟩
    · go_wp2_with fail
      refine (HMb.out _ hk24).mono ?_
      rintro e w5 ⟨rfl, hk5⟩
      replace y0 := hk5.cell y0
      replace y1 := hk5.cell y1
      have hk25 := hk24.trans hk5
      clear hk24 hk5 z0 z1
      go_wp2_with fail
      refine (HSm.out _ hk25).mono ?_
      rintro e w6 ⟨rfl, hk6⟩
      replace y0 := hk6.cell y0
      replace y1 := hk6.cell y1
      have hk26 := hk25.trans hk6
      clear hk25 hk6
      go_wp2_with fail
      refine (HEA.out HOO.out.symm _ hk26).mono ?_
      rintro e w7 ⟨M3, G3, xs, v, rfl, hI⟩
      obtain ⟨B, cap', rfl⟩ := owns_shape hI.row (by decide)
      have hu := hI.upd
      have nv : ¬ F w.heap.size := fun hh => by have := HQ4.out _ hh; have := HSz.out; omega
      replace y0 := hu.cellAt nv y0
      replace y1 := hu.cellAt nv y1
      have hRef := (HQ2.out.keeps hk26).keep hu (fun k hk hf => HQ3.out k hf hk)
      have HRf := Lib.hid hRef
      have hkw : Keeps w w7 := (HKW.out.trans hk26).new hu (fun j hj => by have := HQ4.out j hj; have := HSz.out; omega)
      clear hI hu hRef
      go_wp2_with fail
      refine (HO.out _ _ HRf.out).mono ?_
      rintro e w8 ⟨rfl, hk8⟩
      go_wp2_with fail
      go_ret
      exact ⟨rfl, hkw.trans hk8⟩
    · have g1 : (c != c) = false := by simp
      have g2 : (c != 0) = true := by simp [c0]
      go_wp2_with fail
      refine (HSm.out _ hk24).mono ?_
      rintro e w6 ⟨rfl, hk6⟩
      replace y0 := hk6.cell y0
      replace y1 := hk6.cell y1
      have hk26 := hk24.trans hk6
      clear hk24 hk6 z0 z1
      go_wp2_with fail
      by_cases o0 : o = 0
      · subst o0
        refine (HEA.out HOO.out.symm _ hk26).mono ?_
        rintro e w7 ⟨M3, G3, xs, v, rfl, hI⟩
        obtain ⟨B, cap', rfl⟩ := owns_shape hI.row (by decide)
        have hu := hI.upd
        have nv : ¬ F w.heap.size := fun hh => by have := HQ4.out _ hh; have := HSz.out; omega
        replace y0 := hu.cellAt nv y0
        replace y1 := hu.cellAt nv y1
        have hRef := (HQ2.out.keeps hk26).keep hu (fun k hk hf => HQ3.out k hf hk)
        have HRf := Lib.hid hRef
        have hkw : Keeps w w7 := (HKW.out.trans hk26).new hu (fun j hj => by have := HQ4.out j hj; have := HSz.out; omega)
        clear hI hu hRef
        go_wp2_with fail
        refine (HO.out _ _ HRf.out).mono ?_
        rintro e w8 ⟨rfl, hk8⟩
        go_wp2_with fail
        go_ret
        exact ⟨rfl, hkw.trans hk8⟩
      · have o1 : (o == 0) = false := by simp [o0]
        have o2 : (o == o) = true := by simp
        refine (HEB.out o0 _ hk26).mono ?_
        rintro e w7 ⟨rfl, hk7⟩
        replace y0 := hk7.cell y0
        replace y1 := hk7.cell y1
        have hk27 := hk26.trans hk7
        have HRf := Lib.hid (HQ2.out.keeps hk27)
        clear hk26 hk7
        go_wp2_with fail
        refine (HO.out _ _ HRf.out).mono ?_
        rintro e w8 ⟨rfl, hk8⟩
        go_wp2_with fail
        go_ret
        exact ⟨rfl, (HKW.out.trans hk27).trans hk8⟩

theorem convertAsks_walk (n : Int) (al : Option Addr) (len cap : Nat) (rs : List Rec) (f g : Int) (a b : Edge) (w : World) (_ : (Lit.int .i64 n).wf = true) (hrs : IsRecs w al len rs) (hf : (Lit.int .u8 f).wf = true) (_ : (Lit.int .u8 g).wf = true) (ha : a.ok) (hb : b.ok) :
    Calls Try.prog 4 #[.int .i64 n, .slice al len cap, .int .u8 f, .int .u8 g, .agg #[.int .u8 a.tag, .int .u32 a.to], .agg #[.int .u8 b.tag, .int .u32 b.to]] w fun e w' => e = .returned (.bool true) ∧ Keeps w w' := by
  by_cases h : 40 < len ∨ n < 0 ∨ 6 < n
  · exact convertAsks_out n al len cap f g a b w h
  · exact convertAsks_in n al len cap rs f g a b w ha hb (wf_u8 hf) (by omega) (by omega) (by omega) hrs

set_option maxRecDepth 100000 in
theorem convertAsks_lifted (os : Os) (started : os.Started) (H : Type) (enc : TypeId × Value → H) :
    ReturnsInHanded {} Try.checked os 4 .any (Rows.convertAsksSpec.pre6 enc Try.prog Try.f4 Rows.convertAsksRow.domain false) (Rows.convertAsksSpec.post enc Try.prog Try.f4 false true false false) := by
  refine returnsInHanded_of_change (C := Try.checked) own started (by kernel_rfl) Try.func4
    (ChangeSpec.witness6 (enc := enc) (C := Try.checked) false ⟨#[], #[.int .i64 0, .slice none 0 0, .int .u8 0, .int .u8 0, .agg #[.int .u8 0, .int .u32 0], .agg #[.int .u8 0, .int .u32 0]], []⟩ 12 (by kernel_rfl) (by kernel_rfl) (by kernel_rfl) (by kernel_rfl)) ?_
  intro W base args ds gs before hval0 hW hcnd _
  have hval : ∀ (j : Nat) t v, Try.f4.params[j]? = some t → args[j]? = some v → Value.okWide Try.prog W .any base t v := hval0
  have hW' := hW
  obtain ⟨p, q, hA0, hV, rfl, hfz, hnd⟩ := hW
  have hA : DataW.TrodAll enc Try.prog W 0 (fun _ => true) true Try.f4.params.toList args.toList ds p := hA0
  rw [Try.params4] at hA hval
  have hAk := hA
  obtain ⟨v0, vs0, d0, ds0, p0, q0, hargs, rfl, rfl, h0, r0⟩ := trodAll_cons hA
  obtain ⟨v1, vs1, d1, ds1, p1, q1, rfl, rfl, rfl, h1, r1⟩ := trodAll_cons r0
  obtain ⟨v2, vs2, d2, ds2, p2, q2, rfl, rfl, rfl, h2, r2⟩ := trodAll_cons r1
  obtain ⟨v3, vs3, d3, ds3, p3, q3, rfl, rfl, rfl, h3, r3⟩ := trodAll_cons r2
  obtain ⟨v4, vs4, d4, ds4, p4, q4, rfl, rfl, rfl, h4, r4⟩ := trodAll_cons r3
  obtain ⟨v5, vs5, d5, ds5, p5, q5, rfl, rfl, rfl, h5, r5⟩ := trodAll_cons r4
  obtain ⟨rfl, rfl, rfl⟩ := trodAll_nil r5
  obtain rfl : args = #[v0, v1, v2, v3, v4, v5] := by cases args; simp_all
  obtain ⟨rfl, rfl⟩ := trodVars_none hV
  obtain ⟨a0, rfl, rfl, rfl, w0⟩ := open_int Try.underlying3 (hval 0 3 v0 rfl rfl) h0
  obtain ⟨a1, len1, cap1, rfl⟩ := okWide_slice Try.underlying37 (hval 1 37 v1 rfl rfl)
  obtain ⟨rs1, w1⟩ := open_recs h1
  obtain ⟨a2, rfl, rfl, rfl, w2⟩ := open_int Try.underlying5 (hval 2 5 v2 rfl rfl) h2
  obtain ⟨a3, rfl, rfl, rfl, w3⟩ := open_int Try.underlying5 (hval 3 5 v3 rfl rfl) h3
  obtain ⟨a4, w4, rfl⟩ := open_edge (hval 4 24 v4 rfl rfl) h4
  obtain ⟨a5, w5, rfl⟩ := open_edge (hval 5 24 v5 rfl rfl) h5
  clear hA0 hval0
  refine (convertAsks_walk a0 a1 len1 cap1 rs1 a2 a3 a4 a5 W w0 w1 w2 w3 w4 w5).mono fun e W' ⟨he, bel⟩ => ?_
  subst he
  exact ⟨_, rfl, _, _, _, [], _, [], hW', trodAll_mk1 (shut_bool Try.underlying4 _), trodAll_below laidOut bel _ _ _ _ (by kernel_rfl) hAk, rfl, Below.frame bel _, fun h => by cases h⟩

theorem convertAsks_over : Rows.convertAsksRow.holds Try.pinned (OpenSpec.ofChange Rows.convertAsksSpec) :=
  OpenClaim.holds_of_wide 4 Try.f4 rfl rfl rfl rfl rfl rfl rfl ⟨rfl, rfl, rfl, rfl, rfl⟩ rfl rfl rfl rfl rfl (by kernel_rfl) Try.func4 (by kernel_rfl)
    (of_decide_eq_true (by kernel_rfl)) (by unfold Func.isWrapper; first | (rw [if_pos (by decide +kernel)]; kernel_rfl) | (rw [if_neg (by decide +kernel)]; exact ⟨rfl, rfl⟩))
    (fun os started H enc _ => convertAsks_lifted os started H enc)

theorem convertAsks_proved : Rows.ConvertAsksSaid := convertAsks_over

end Go.Proofs.Ytiacdpoldgfpbaa
