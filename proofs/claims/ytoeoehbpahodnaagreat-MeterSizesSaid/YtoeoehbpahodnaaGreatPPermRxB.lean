/-
  The document's permutations: ramageref02.Right, Same, Step; ramageref26.Moved.
-/
import Derived.Test.YtoeoehbpahodnaaGreatPOrderN
namespace Go.Proofs.YtoeoehbpahodnaaGreat
set_option linter.unusedSimpArgs false
set_option linter.unusedVariables false
set_option maxHeartbeats 600000
open Go.RowKit

theorem perm_of_sub : ∀ (R ps : List Int), R.Nodup → (∀ x ∈ R, x ∈ ps) → ps.length ≤ R.length → ps.Perm R := by
  intro R
  induction R with
  | nil =>
    intro ps _ _ hl
    rw [List.length_nil, Nat.le_zero, List.length_eq_zero_iff] at hl
    rw [hl]
  | cons x R ih =>
    intro ps hn hs hl
    rw [List.nodup_cons] at hn
    have hx := hs x (by simp)
    have hp := List.perm_cons_erase hx
    refine hp.trans (List.Perm.cons x (ih _ hn.2 (fun y hy => ?_) ?_))
    · have hyx : y ≠ x := fun e => hn.1 (e ▸ hy)
      exact (List.mem_erase_of_ne hyx).2 (hs y (by simp [hy]))
    · have := hp.length_eq
      simp at this hl
      omega

theorem permB_perm {ps : List Int} : permB ps = true ↔ (ps.length ≤ 16 ∧ ps.Perm (numsI ps.length)) := by
  rw [permB_iff]
  constructor
  · rintro ⟨h1, h2, h3⟩
    exact ⟨h1, (perm_of_sub ps (numsI ps.length) h3 (fun x hx => mem_numsI.2 (h2 x hx)) (by rw [numsI_len]; omega)).symm⟩
  · rintro ⟨h1, h2⟩
    exact ⟨h1, fun x hx => mem_numsI.1 (h2.mem_iff.1 hx), h2.nodup_iff.2 (nodup_numsI _)⟩

theorem permB_count {ps : List Int} (h16 : ps.length ≤ 16) : permB ps = true ↔ ∀ i : Nat, i < ps.length → ps.count (i : Int) = 1 := by
  rw [permB_perm]
  constructor
  · rintro ⟨_, h⟩ i hi
    rw [h.count_eq, (nodup_numsI _).count, if_pos (mem_numsI.2 (by omega))]
  · intro h
    refine ⟨h16, perm_of_sub _ _ (nodup_numsI _) (fun x hx => ?_) (by rw [numsI_len]; omega)⟩
    obtain ⟨h0, h1⟩ := mem_numsI.1 hx
    have := h x.toNat (by omega)
    rw [show ((x.toNat : Nat) : Int) = x by omega] at this
    exact List.count_pos_iff.1 (by omega)

set_option maxRecDepth 100000 in
theorem refRight_calls (a : Option Addr) (cap : Nat) (ps : List Int) (w : World) (h : IntsAt w a ps) (hl : ps.length ≤ 16) :
    Calls Tryz.prog 15 #[.slice a ps.length cap] w fun e w' => e = .returned (.bool (permB ps)) ∧ w = w' := by
  have hcnt := permB_count hl
  obtain ⟨N, hN⟩ : ∃ N, N = ps.length := ⟨_, rfl⟩
  rw [← hN] at hl hcnt ⊢
  have H := Lib.hid h
  have HN := Lib.hid hN
  have HC := Lib.hid hcnt
  clear h hN hcnt
  go_enter Tryz.func15, Tryz.ntmps15
  go_wp2
  go_loopg [3, 4, 5] N (fun gk s3 s4 s5 wr => ∃ (d : Nat), s3 = .int .i64 (d : Int) ∧ d + gk = N ∧ (∀ i : Nat, i < d → ps.count (i : Int) = 1) ∧ w = wr)
  case atStart => exact ⟨0, rfl, by omega, fun i hi => by omega, rfl⟩
  case round =>
    obtain ⟨d, rfl, hd, hall, rfl⟩ := hrel
    have HALL := Lib.hid hall
    obtain ⟨g0, hg0⟩ : ∃ g, g = gk := ⟨_, rfl⟩
    have HG0 := Lib.hid hg0
    clear hall hg0
    by_cases hlt : d < N
    · go_wp2_with fail
      go_loopg [4, 5] N (fun gk s4 s5 wi => ∃ (j c : Nat), s5 = .int .i64 (j : Int) ∧ s4 = .int .i64 (c : Int) ∧ j + gk = N ∧ c = (ps.take j).count (d : Int) ∧ c ≤ j ∧ w = wi)
      case atStart => exact ⟨0, 0, rfl, rfl, by omega, by simp, by omega, rfl⟩
      case round =>
        obtain ⟨j, c, rfl, rfl, hj, hcc, hcj, rfl⟩ := hrel
        have HCC := Lib.hid hcc
        clear hcc
        by_cases hjl : j < N
        · obtain ⟨x, hx⟩ : ∃ b, ps[j]? = some b := ⟨_, List.getElem?_eq_getElem (by rw [← HN.out]; exact hjl)⟩
          obtain ⟨b, off, rfl, hc⟩ := H.out j x hx
          have ht := take_snoc hx
          have HT := Lib.hid ht
          clear hx ht
          by_cases hxd : x = (d : Int)
          · subst hxd
            go_wp2_with fail
            go_roundg (gk - 1)
            case rel => exact ⟨j + 1, c + 1, by simp, by simp, by omega, by rw [HT.out, List.count_append, HCC.out]; simp, by omega, rfl⟩
            case measure => omega
          · go_wp2_with fail
            go_roundg (gk - 1)
            case rel => exact ⟨j + 1, c, by simp, rfl, by omega, by rw [HT.out, List.count_append, HCC.out]; simp [hxd], by omega, rfl⟩
            case measure => omega
        · have hcp : c = ps.count (d : Int) := by
            rw [HCC.out, List.take_of_length_le (by rw [← HN.out]; omega)]
          have HCP := Lib.hid hcp
          clear hcp
          by_cases h1 : c = 1
          · subst h1
            have hall : ∀ i : Nat, i < d + 1 → ps.count (i : Int) = 1 := fun i hi => by
              by_cases e : i = d
              · subst e; exact HCP.out.symm
              · exact HALL.out i (by omega)
            have HALL2 := Lib.hid hall
            clear hall
            go_wp2_with fail
            go_roundg (g0 - 1)
            case rel => exact ⟨d + 1, by simp, by have := HG0.out; omega, HALL2.out, rfl⟩
            case measure => have := HG0.out; omega
          · have hf : permB ps = false := by
              cases hb : permB ps with
              | false => rfl
              | true => have := HC.out.1 hb d hlt; have := HCP.out; omega
            have HF := Lib.hid hf
            have g1 : ((c : Int) != 1) = true := by simp; omega
            clear hf
            go_wp2_with fail
            go_ret
            exact ⟨by rw [HF.out]; rfl, rfl⟩
    · have ht : permB ps = true := HC.out.2 (fun i hi => HALL.out i (by omega))
      have HT := Lib.hid ht
      clear ht
      go_wp2_with fail
      go_ret
      exact ⟨by rw [HT.out]; simp; omega, rfl⟩

end Go.Proofs.YtoeoehbpahodnaaGreat
