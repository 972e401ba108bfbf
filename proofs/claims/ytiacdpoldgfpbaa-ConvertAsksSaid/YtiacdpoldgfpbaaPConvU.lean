/-
  convert.Tidy.
-/
import Derived.Test.YtiacdpoldgfpbaaPConvA0
import Derived.Test.YtiacdpoldgfpbaaPHoldsY
namespace Go.Proofs.Ytiacdpoldgfpbaa
set_option linter.unusedSimpArgs false
set_option linter.unusedVariables false
set_option maxHeartbeats 600000
open Go.RowKit

set_option maxRecDepth 100000 in
theorem to_bad {F : Nat → Prop} {w : World} {sb : Nat} {M : St} (h : StoreRep F w sb M) (f g : Int) (v : Edge) (hv : v.ok) (c0 : convC M f g v ≠ 0) :
    Calls Try.prog 11 #[.pointer (some ⟨sb, 0, none⟩), .int .u8 f, .agg #[.int .u8 v.tag, .int .u32 v.to], .int .u8 g] w fun r w' => r = .returned (.tuple #[.agg #[.int .u8 (⟨0, 0⟩ : Edge).tag, .int .u32 (⟨0, 0⟩ : Edge).to], .int .u8 (convC M f g v)]) ∧ Keeps w w' := by
  have hmay := fun (W : World) (hW : Keeps w W) => convmay_calls (h.keeps hW) f g v hv
  have hr := convC_range M f g v
  obtain ⟨c, hc⟩ : ∃ c, c = convC M f g v := ⟨_, rfl⟩
  rw [← hc] at hmay hr c0 ⊢
  have HM := Lib.hid hmay
  have g0 : (c != 0) = true := by simp [c0]
  clear h hmay hc
  go_enter Try.func11, Try.ntmps11
  go_wp2_with (first | (go_at_call 47; refine (HM.out _ (by (exact kp))).mono ?_; rintro e w1 ⟨rfl, hk⟩; have r0 := hk.cell (a := ⟨w.heap.size + 1, 0, none⟩) (v := .int .u8 0) (by simp [go_sem]); have r1 := hk.cell (a := ⟨w.heap.size + 1, 1, none⟩) (v := .int .u32 0) (by simp [go_sem]); have rf := fun o : Nat => hk.frz (a := ⟨w.heap.size + 1, o, none⟩) (by simp) (by simp [go_sem])) | fail)
  refine bodyPost_ret (v := .tuple #[.agg #[.int .u8 (⟨0, 0⟩ : Edge).tag, .int .u32 (⟨0, 0⟩ : Edge).to], .int .u8 c]) (by simp [results, Try.results11, go_sem, r0, r1]) rfl ⟨rfl, by (exact kp)⟩

theorem convC_may {M : St} (h : M.wf) (f g : Int) (e : Edge) : convC M f g e = if isFormB f = false ∨ isFormB g = false then 4 else mayC M f e 0 := by
  unfold convC mayC
  have := h.n0
  by_cases hc : isFormB f = false ∨ isFormB g = false
  · rw [if_pos hc, if_pos hc]
  · rw [if_neg hc, if_neg hc, if_neg (fun hh => hc (.inl hh)), if_neg (show ¬ ((0 : Int) < 0 ∨ M.n < 0) by omega)]

theorem rmay25_calls {F : Nat → Prop} {w : World} {mb : Nat} {M : St} {L : List (Int × Rec)} (h : RefRep F w mb M L) (f g : Int) (v : Edge) (hv : v.ok) :
    Calls Try.prog 16 #[.pointer (some ⟨mb, 0, none⟩), .int .u8 f, .agg #[.int .u8 v.tag, .int .u32 v.to], .int .u8 g] w fun r w' => r = .returned (.int .i64 (convC M f g v)) ∧ Keeps w w' := by
  rw [convC_may h.wf]
  have hm := fun (W : World) (hW : Keeps w W) => rmay_calls (h.keeps hW) f v 0 hv
  have hfc := ris_calls f
  have hgc := ris_calls g
  rcases bool_cases (isFormB f) with hb | hb
  · rw [if_pos (.inl hb)]
    rw [hb] at hfc
    have HFC := Lib.hid hfc
    clear h hm hfc hgc hb
    go_enter Try.func16, Try.ntmps16
    go_wp2_with (first | (go_at_call 54; refine (HFC.out _).mono ?_; rintro e w' ⟨rfl, rfl⟩) | fail)
    go_ret
    exact ⟨rfl, by (exact kp)⟩
  · rw [hb] at hfc
    rcases bool_cases (isFormB g) with hb2 | hb2
    · rw [if_pos (.inr hb2)]
      rw [hb2] at hgc
      have HFC := Lib.hid hfc
      have HGC := Lib.hid hgc
      clear h hm hfc hgc hb hb2
      go_enter Try.func16, Try.ntmps16
      go_wp2_with fail
      refine (HFC.out _).mono ?_
      rintro e w' ⟨rfl, rfl⟩
      go_wp2_with fail
      refine (HGC.out _).mono ?_
      rintro e w' ⟨rfl, rfl⟩
      go_wp2_with fail
      go_ret
      exact ⟨rfl, by (exact kp)⟩
    · rw [if_neg (by rw [hb, hb2]; simp)]
      rw [hb2] at hgc
      have HFC := Lib.hid hfc
      have HGC := Lib.hid hgc
      have HM := Lib.hid hm
      clear h hm hfc hgc hb hb2
      go_enter Try.func16, Try.ntmps16
      go_wp2_with fail
      refine (HFC.out _).mono ?_
      rintro e w' ⟨rfl, rfl⟩
      go_wp2_with fail
      refine (HGC.out _).mono ?_
      rintro e w' ⟨rfl, rfl⟩
      go_wp2_with (first | (go_at_call 17; refine (HM.out _ (by (exact kp))).mono ?_; rintro e w1 ⟨rfl, hk⟩) | fail)
      go_ret
      exact ⟨rfl, by (exact kp)⟩

end Go.Proofs.Ytiacdpoldgfpbaa
