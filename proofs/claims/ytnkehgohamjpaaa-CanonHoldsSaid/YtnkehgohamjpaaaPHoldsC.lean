/-
  The walks of canon.may and canon.Size.
-/
import Derived.Test.YtnkehgohamjpaaaPHoldsB
import Derived.Test.YtnkehgohamjpaaaPRightA
namespace Go.Proofs.Ytnkehgohamjpaaa
set_option linter.unusedSimpArgs false
set_option linter.unusedVariables false
set_option maxHeartbeats 600000
open Go.RowKit

theorem may_calls' {F : Nat → Prop} {w : World} {sb : Nat} {M : St} (h : StoreRep F w sb M) (f : Int) (v : Edge) (l : Int) (hv : v.ok) :
    Calls Try.prog 91 #[.pointer (some ⟨sb, 0, none⟩), .int .u8 f, .agg #[.int .u8 v.tag, .int .u32 v.to], .int .i64 l] w fun r w' => r = .returned (.int .u8 (mayC M f v l)) ∧ Keeps w w' := by
  have HV := Lib.hid (fun (W : World) (hW : Keeps w W) => store_vars (h.keeps hW))
  have hld := fun (W : World) (hW : Keeps w W) => store_leads (h.keeps hW) f v l hv
  have hfc := isForm_calls f
  rcases bool_cases (isFormB f) with hb | hb
  · have e : mayC M f v l = 4 := by unfold mayC; rw [if_pos hb]
    rw [e]
    rw [hb] at hfc
    have HFC := Lib.hid hfc
    clear h hld hfc hb e
    go_enter Try.func91, Try.ntmps91
    go_wp2_with (first | (go_at_call 99; refine (HFC.out _).mono ?_; rintro e w' ⟨rfl, rfl⟩) | fail)
    go_ret
    exact ⟨rfl, by (repeat (first | with_reducible exact Keeps.refl _ | with_reducible assumption | with_reducible refine Keeps.alloc ?_ _ | with_reducible refine Keeps.drewN ?_ _ | with_reducible refine Keeps.drew ?_ | refine Keeps.setCell ?_ (by dsimp only; omega) _ | with_reducible refine Keeps.trans ?_ (by assumption)))⟩
  · rw [hb] at hfc
    have HFC := Lib.hid hfc
    clear hfc
    by_cases c1 : l < 0 ∨ M.n < l
    · have e : mayC M f v l = 3 := by unfold mayC; rw [if_neg (by rw [hb]; simp), if_pos c1]
      rw [e]
      clear h hld hb e
      by_cases c0 : l < 0
      · go_enter Try.func91, Try.ntmps91
        go_wp2_with (first | (go_at_call 99; refine (HFC.out _).mono ?_; rintro e w' ⟨rfl, rfl⟩) | (go_at_call 53; refine (HV.out _ (by (repeat (first | with_reducible exact Keeps.refl _ | with_reducible assumption | with_reducible refine Keeps.alloc ?_ _ | with_reducible refine Keeps.drewN ?_ _ | with_reducible refine Keeps.drew ?_ | refine Keeps.setCell ?_ (by dsimp only; omega) _ | with_reducible refine Keeps.trans ?_ (by assumption))))).mono ?_; rintro e w' ⟨rfl, rfl⟩) | fail)
        all_goals go_ret
        all_goals exact ⟨rfl, by (repeat (first | with_reducible exact Keeps.refl _ | with_reducible assumption | with_reducible refine Keeps.alloc ?_ _ | with_reducible refine Keeps.drewN ?_ _ | with_reducible refine Keeps.drew ?_ | refine Keeps.setCell ?_ (by dsimp only; omega) _ | with_reducible refine Keeps.trans ?_ (by assumption)))⟩
      · have c2 : M.n < l := by omega
        go_enter Try.func91, Try.ntmps91
        go_wp2_with (first | (go_at_call 99; refine (HFC.out _).mono ?_; rintro e w' ⟨rfl, rfl⟩) | (go_at_call 53; refine (HV.out _ (by (repeat (first | with_reducible exact Keeps.refl _ | with_reducible assumption | with_reducible refine Keeps.alloc ?_ _ | with_reducible refine Keeps.drewN ?_ _ | with_reducible refine Keeps.drew ?_ | refine Keeps.setCell ?_ (by dsimp only; omega) _ | with_reducible refine Keeps.trans ?_ (by assumption))))).mono ?_; rintro e w' ⟨rfl, rfl⟩) | fail)
        all_goals go_ret
        all_goals exact ⟨rfl, by (repeat (first | with_reducible exact Keeps.refl _ | with_reducible assumption | with_reducible refine Keeps.alloc ?_ _ | with_reducible refine Keeps.drewN ?_ _ | with_reducible refine Keeps.drew ?_ | refine Keeps.setCell ?_ (by dsimp only; omega) _ | with_reducible refine Keeps.trans ?_ (by assumption)))⟩
    · have d0 : ¬ l < 0 := by omega
      have d1 : ¬ M.n < l := by omega
      rcases bool_cases (M.leads f v l) with hb2 | hb2
      · have e : mayC M f v l = 1 := by unfold mayC; rw [if_neg (by rw [hb]; simp), if_neg c1, if_pos hb2]
        rw [e]
        rw [hb2] at hld
        have HLD := Lib.hid hld
        clear h hld hb e c1 hb2
        go_enter Try.func91, Try.ntmps91
        go_wp2_with (first | (go_at_call 99; refine (HFC.out _).mono ?_; rintro e w' ⟨rfl, rfl⟩) | (go_at_call 53; refine (HV.out _ (by (repeat (first | with_reducible exact Keeps.refl _ | with_reducible assumption | with_reducible refine Keeps.alloc ?_ _ | with_reducible refine Keeps.drewN ?_ _ | with_reducible refine Keeps.drew ?_ | refine Keeps.setCell ?_ (by dsimp only; omega) _ | with_reducible refine Keeps.trans ?_ (by assumption))))).mono ?_; rintro e w' ⟨rfl, rfl⟩) | (go_at_call 24; refine (HLD.out _ (by (repeat (first | with_reducible exact Keeps.refl _ | with_reducible assumption | with_reducible refine Keeps.alloc ?_ _ | with_reducible refine Keeps.drewN ?_ _ | with_reducible refine Keeps.drew ?_ | refine Keeps.setCell ?_ (by dsimp only; omega) _ | with_reducible refine Keeps.trans ?_ (by assumption))))).mono ?_; rintro e w1 ⟨rfl, hk⟩) | fail)
        all_goals go_ret
        all_goals exact ⟨rfl, by (repeat (first | with_reducible exact Keeps.refl _ | with_reducible assumption | with_reducible refine Keeps.alloc ?_ _ | with_reducible refine Keeps.drewN ?_ _ | with_reducible refine Keeps.drew ?_ | refine Keeps.setCell ?_ (by dsimp only; omega) _ | with_reducible refine Keeps.trans ?_ (by assumption)))⟩
      · have e : mayC M f v l = 0 := by unfold mayC; rw [if_neg (by rw [hb]; simp), if_neg c1, if_neg (by rw [hb2]; simp)]
        rw [e]
        rw [hb2] at hld
        have HLD := Lib.hid hld
        clear h hld hb e c1 hb2
        go_enter Try.func91, Try.ntmps91
        go_wp2_with (first | (go_at_call 99; refine (HFC.out _).mono ?_; rintro e w' ⟨rfl, rfl⟩) | (go_at_call 53; refine (HV.out _ (by (repeat (first | with_reducible exact Keeps.refl _ | with_reducible assumption | with_reducible refine Keeps.alloc ?_ _ | with_reducible refine Keeps.drewN ?_ _ | with_reducible refine Keeps.drew ?_ | refine Keeps.setCell ?_ (by dsimp only; omega) _ | with_reducible refine Keeps.trans ?_ (by assumption))))).mono ?_; rintro e w' ⟨rfl, rfl⟩) | (go_at_call 24; refine (HLD.out _ (by (repeat (first | with_reducible exact Keeps.refl _ | with_reducible assumption | with_reducible refine Keeps.alloc ?_ _ | with_reducible refine Keeps.drewN ?_ _ | with_reducible refine Keeps.drew ?_ | refine Keeps.setCell ?_ (by dsimp only; omega) _ | with_reducible refine Keeps.trans ?_ (by assumption))))).mono ?_; rintro e w1 ⟨rfl, hk⟩) | fail)
        all_goals go_ret
        all_goals exact ⟨rfl, by (repeat (first | with_reducible exact Keeps.refl _ | with_reducible assumption | with_reducible refine Keeps.alloc ?_ _ | with_reducible refine Keeps.drewN ?_ _ | with_reducible refine Keeps.drew ?_ | refine Keeps.setCell ?_ (by dsimp only; omega) _ | with_reducible refine Keeps.trans ?_ (by assumption)))⟩

set_option maxRecDepth 100000 in
theorem csize_calls {F : Nat → Prop} {w : World} {sb : Nat} {M : St} (h : StoreRep F w sb M) (f : Int) (v : Edge) (l : Int) (hv : v.ok) :
    Calls Try.prog 57 #[.pointer (some ⟨sb, 0, none⟩), .int .u8 f, .agg #[.int .u8 v.tag, .int .u32 v.to], .int .i64 l] w fun r w' => r = .returned (.tuple #[.int .i64 (if mayC M f v l = 0 then ((reachL M.cs [v.to]).length : Int) else 0), .int .u8 (mayC M f v l)]) ∧ Keeps w w' := by
  have hmay := fun (W : World) (hW : Keeps w W) => may_calls' (h.keeps hW) f v l hv
  have HRE := Lib.hid (fun (W : World) (hW : Keeps w W) (b : Nat) (cap : Nat) (hE : IsEdges W (some ⟨b, 0, none⟩) 1 [v]) => reach_calls (h.keeps hW) (some ⟨b, 0, none⟩) 1 cap [v] hE (by omega))
  have hr := mayC_range M f v l
  obtain ⟨c, hc⟩ : ∃ c, c = mayC M f v l := ⟨_, rfl⟩
  rw [← hc] at hmay hr ⊢
  have HM := Lib.hid hmay
  clear h hmay hc
  by_cases c0 : c = 0
  · subst c0
    rw [if_pos rfl]
    go_enter Try.func57, Try.ntmps57
    go_wp2_with (first | (go_at_call 91; refine (HM.out _ (by (repeat (first | with_reducible exact Keeps.refl _ | with_reducible assumption | with_reducible refine Keeps.alloc ?_ _ | with_reducible refine Keeps.drewN ?_ _ | with_reducible refine Keeps.drew ?_ | refine Keeps.setCell ?_ (by dsimp only; omega) _ | with_reducible refine Keeps.trans ?_ (by assumption))))).mono ?_; rintro e w1 ⟨rfl, hk⟩; have z0 : w1.cell? ⟨w.heap.size, 0, none⟩ = some (.int .u8 v.tag) := hk.cell (by simp); have z1 : w1.cell? ⟨w.heap.size, 1, none⟩ = some (.int .u32 v.to) := hk.cell (by simp); have hk1 : Keeps w w1 := (by (repeat (first | with_reducible exact Keeps.refl _ | with_reducible assumption | with_reducible refine Keeps.alloc ?_ _ | with_reducible refine Keeps.drewN ?_ _ | with_reducible refine Keeps.drew ?_ | refine Keeps.setCell ?_ (by dsimp only; omega) _ | with_reducible refine Keeps.trans ?_ (by assumption))))) | fail)
    refine (HRE.out _ (by (repeat (first | with_reducible exact Keeps.refl _ | with_reducible assumption | with_reducible refine Keeps.alloc ?_ _ | with_reducible refine Keeps.drewN ?_ _ | with_reducible refine Keeps.drew ?_ | refine Keeps.setCell ?_ (by dsimp only; omega) _ | with_reducible refine Keeps.trans ?_ (by assumption)))) _ _ (isEdges_one hv (by simp [go_sem]) (by simp [go_sem]))).mono ?_
    rintro e w2 ⟨vv, rfl, hrow, hk2⟩
    obtain ⟨a, cap, rfl, hcc⟩ := hrow
    obtain ⟨n, hn⟩ : ∃ n, n = (reachL M.cs [v.to]).length := ⟨_, rfl⟩
    have hn' : (reachL M.cs (List.map Edge.to [v])).length = n := by rw [hn]; rfl
    rw [hn']
    have HN := Lib.hid hn
    clear hcc hn hn'
    go_wp2_with fail
    go_ret2
    exact ⟨by rw [← HN.out]; rfl, by (repeat (first | with_reducible exact Keeps.refl _ | with_reducible assumption | with_reducible refine Keeps.alloc ?_ _ | with_reducible refine Keeps.drewN ?_ _ | with_reducible refine Keeps.drew ?_ | refine Keeps.setCell ?_ (by dsimp only; omega) _ | with_reducible refine Keeps.trans ?_ (by assumption)))⟩
  · rw [if_neg c0]
    have g0 : (c != 0) = true := by simp [c0]
    clear HRE
    go_enter Try.func57, Try.ntmps57
    go_wp2_with (first | (go_at_call 91; refine (HM.out _ (by (repeat (first | with_reducible exact Keeps.refl _ | with_reducible assumption | with_reducible refine Keeps.alloc ?_ _ | with_reducible refine Keeps.drewN ?_ _ | with_reducible refine Keeps.drew ?_ | refine Keeps.setCell ?_ (by dsimp only; omega) _ | with_reducible refine Keeps.trans ?_ (by assumption))))).mono ?_; rintro e w1 ⟨rfl, hk⟩) | fail)
    go_ret2
    exact ⟨rfl, by (repeat (first | with_reducible exact Keeps.refl _ | with_reducible assumption | with_reducible refine Keeps.alloc ?_ _ | with_reducible refine Keeps.drewN ?_ _ | with_reducible refine Keeps.drew ?_ | refine Keeps.setCell ?_ (by dsimp only; omega) _ | with_reducible refine Keeps.trans ?_ (by assumption)))⟩

end Go.Proofs.Ytnkehgohamjpaaa
