/-
  convert.Tidy.
-/
import Derived.Test.YtiacdpoldgfpbaaGreatPConvUxD
import Derived.Test.YtiacdpoldgfpbaaGreatPHoldsYxA
namespace Go.Proofs.YtiacdpoldgfpbaaGreat
set_option linter.unusedSimpArgs false
set_option linter.unusedVariables false
set_option maxHeartbeats 600000
open Go.RowKit

set_option maxRecDepth 100000 in
theorem tidy_calls {F : Nat → Prop} {w : World} {sb : Nat} {M : St} (h : StoreRep F w sb M) (f : Int) (v : Edge) (hv : v.ok) (hroom : M.room < 1048576) :
    Calls Tryz.prog 27 #[.pointer (some ⟨sb, 0, none⟩), .int .u8 f, .agg #[.int .u8 v.tag, .int .u32 v.to]] w (ToOut F w sb f f M v) := by
  have hlt := h.lt
  have HT := Lib.hid (fun (W : World) (hW : Keeps w W) => to_calls (h.keeps hW) f f v hv hroom)
  have H := Lib.hid h
  have HLT := Lib.hid hlt
  clear h hv hroom hlt
  go_enter Tryz.func27, Tryz.ntmps27
  go_wp2_with fail
  have hk2 : Keeps w ((w.alloc (.cells #[.int .u8 v.tag, .int .u32 v.to] 31)).alloc (.cells #[.int .u8 0, .int .u32 0] 31)) := ((Keeps.refl _).alloc _).alloc _
  refine (HT.out _ hk2).mono ?_
  rintro r w3 ⟨M', V', x, er, F', rfl, hx, hu, hF', hS, hc⟩
  have nR : ¬ F (w.heap.size + 1) := fun hh => by have := HLT.out _ hh; omega
  have r0 := hu.cellAt (b := w.heap.size + 1) (o := 0) (v := .int .u8 0) nR (by simp [go_sem])
  have r1 := hu.cellAt (b := w.heap.size + 1) (o := 1) (v := .int .u32 0) nR (by simp [go_sem])
  have rf := fun o : Nat => hu.frozen (a := ⟨w.heap.size + 1, o, none⟩) (by simp) nR (by simp [go_sem])
  have hsub : ∀ j, F' j → F j ∨ w.heap.size ≤ j := fun j hj => by
    rcases hF' j hj with q | q
    · exact .inl q
    · simp only [World.size_alloc] at q
      exact .inr (by omega)
  have nFR : ¬ F' (w.heap.size + 1) := fun hh => by
    rcases hF' _ hh with q | q
    · exact nR q
    · simp only [World.size_alloc] at q
      omega
  have hout : ∀ w', Upd (fun j => j = w.heap.size + 1) w3 w' → ToOut F w sb f f M v (.returned (.tuple #[.agg #[.int .u8 x.tag, .int .u32 x.to], .int .u8 er])) w' := fun w' hw' =>
    ⟨M', V', x, er, F', rfl, hx, ((Keeps.upd hk2 F).trans' hu).later hw' (fun i hi hh => by omega), hsub, hS.keep hw' (fun k hk hh => by subst hh; exact nFR hk), hc⟩
  have HOUT := Lib.hid hout
  clear hout hsub nFR hS hF' hu hc hx
  go_wp2_with fail
  refine bodyPost_ret (v := .tuple #[.agg #[.int .u8 x.tag, .int .u32 x.to], .int .u8 er]) (by simp [results, Tryz.results27, go_sem, r0, r1]) rfl (HOUT.out _ ?_)
  (repeat (first | with_reducible exact Upd.refl _ _ | refine updR ?_ _ _ | with_reducible refine Upd.alloc ?_ _ | with_reducible refine Upd.drew ?_))

set_option maxRecDepth 100000 in
theorem to_bad {F : Nat → Prop} {w : World} {sb : Nat} {M : St} (h : StoreRep F w sb M) (f g : Int) (v : Edge) (hv : v.ok) (c0 : convC M f g v ≠ 0) :
    Calls Tryz.prog 22 #[.pointer (some ⟨sb, 0, none⟩), .int .u8 f, .agg #[.int .u8 v.tag, .int .u32 v.to], .int .u8 g] w fun r w' => r = .returned (.tuple #[.agg #[.int .u8 (⟨0, 0⟩ : Edge).tag, .int .u32 (⟨0, 0⟩ : Edge).to], .int .u8 (convC M f g v)]) ∧ Keeps w w' := by
  have hmay := fun (W : World) (hW : Keeps w W) => convmay_calls (h.keeps hW) f g v hv
  have hr := convC_range M f g v
  obtain ⟨c, hc⟩ : ∃ c, c = convC M f g v := ⟨_, rfl⟩
  rw [← hc] at hmay hr c0 ⊢
  have HM := Lib.hid hmay
  have g0 : (c != 0) = true := by simp [c0]
  clear h hmay hc
  go_enter Tryz.func22, Tryz.ntmps22
  go_wp2_with (first | (go_at_call 63; refine (HM.out _ (by (exact kp))).mono ?_; rintro e w1 ⟨rfl, hk⟩; have r0 := hk.cell (a := ⟨w.heap.size + 1, 0, none⟩) (v := .int .u8 0) (by simp [go_sem]); have r1 := hk.cell (a := ⟨w.heap.size + 1, 1, none⟩) (v := .int .u32 0) (by simp [go_sem]); have rf := fun o : Nat => hk.frz (a := ⟨w.heap.size + 1, o, none⟩) (by simp) (by simp [go_sem])) | fail)
  refine bodyPost_ret (v := .tuple #[.agg #[.int .u8 (⟨0, 0⟩ : Edge).tag, .int .u32 (⟨0, 0⟩ : Edge).to], .int .u8 c]) (by simp [results, Tryz.results22, go_sem, r0, r1]) rfl ⟨rfl, by (exact kp)⟩

set_option maxRecDepth 100000 in
theorem tidy_bad {F : Nat → Prop} {w : World} {sb : Nat} {M : St} (h : StoreRep F w sb M) (f : Int) (v : Edge) (hv : v.ok) (c0 : convC M f f v ≠ 0) :
    Calls Tryz.prog 27 #[.pointer (some ⟨sb, 0, none⟩), .int .u8 f, .agg #[.int .u8 v.tag, .int .u32 v.to]] w fun r w' => r = .returned (.tuple #[.agg #[.int .u8 (⟨0, 0⟩ : Edge).tag, .int .u32 (⟨0, 0⟩ : Edge).to], .int .u8 (convC M f f v)]) ∧ Keeps w w' := by
  have hto := fun (W : World) (hW : Keeps w W) => to_bad (h.keeps hW) f f v hv c0
  obtain ⟨c, hc⟩ : ∃ c, c = convC M f f v := ⟨_, rfl⟩
  rw [← hc] at hto ⊢
  have HM := Lib.hid hto
  clear h hto hc c0
  go_enter Tryz.func27, Tryz.ntmps27
  go_wp2_with (first | (go_at_call 22; refine (HM.out _ (by (exact kp))).mono ?_; rintro e w1 ⟨rfl, hk⟩; have r0 := hk.cell (a := ⟨w.heap.size + 1, 0, none⟩) (v := .int .u8 0) (by simp [go_sem]); have r1 := hk.cell (a := ⟨w.heap.size + 1, 1, none⟩) (v := .int .u32 0) (by simp [go_sem]); have rf := fun o : Nat => hk.frz (a := ⟨w.heap.size + 1, o, none⟩) (by simp) (by simp [go_sem])) | fail)
  refine bodyPost_ret (v := .tuple #[.agg #[.int .u8 (⟨0, 0⟩ : Edge).tag, .int .u32 (⟨0, 0⟩ : Edge).to], .int .u8 c]) (by simp [results, Tryz.results27, go_sem, r0, r1]) rfl ⟨rfl, by (exact kp)⟩

theorem rmay25_calls {F : Nat → Prop} {w : World} {mb : Nat} {M : St} {L : List (Int × Rec)} (h : RefRep F w mb M L) (f g : Int) (v : Edge) (hv : v.ok) :
    Calls Tryz.prog 28 #[.pointer (some ⟨mb, 0, none⟩), .int .u8 f, .agg #[.int .u8 v.tag, .int .u32 v.to], .int .u8 g] w fun r w' => r = .returned (.int .i64 (convC M f g v)) ∧ Keeps w w' := by
  rw [convC_may h.wf]
  have hm := fun (W : World) (hW : Keeps w W) => rmay_calls (h.keeps hW) f v 0 hv
  have hfc := ris_calls f
  have hgc := ris_calls g
  rcases bool_cases (isFormB f) with hb | hb
  · rw [if_pos (.inl hb)]
    rw [hb] at hfc
    have HFC := Lib.hid hfc
    clear h hm hfc hgc hb
    go_enter Tryz.func28, Tryz.ntmps28
    go_wp2_with (first | (go_at_call 12; refine (HFC.out _).mono ?_; rintro e w' ⟨rfl, rfl⟩) | fail)
    go_ret
    exact ⟨rfl, by (exact kp)⟩
  · rw [hb] at hfc
    rcases bool_cases (isFormB g) with hb2 | hb2
    · rw [if_pos (.inr hb2)]
      rw [hb2] at hgc
      have HFC := Lib.hid hfc
      have HGC := Lib.hid hgc
      clear h hm hfc hgc hb hb2
      go_enter Tryz.func28, Tryz.ntmps28
      go_wp2_with fail
      refine (HFC.out _).mono ?_
      rintro e w' ⟨rfl, rfl⟩
      go_wp2_with fail
      refine (HGC.out _).mono ?_
      rintro e w' ⟨rfl, rfl⟩
      go_wp2_with fail
      go_ret
      exact ⟨rfl, by (exact kp)⟩
    · rw [if_neg (by rw [hb, hb2]; simp)]
      rw [hb2] at hgc
      have HFC := Lib.hid hfc
      have HGC := Lib.hid hgc
      have HM := Lib.hid hm
      clear h hm hfc hgc hb hb2
      go_enter Tryz.func28, Tryz.ntmps28
      go_wp2_with fail
      refine (HFC.out _).mono ?_
      rintro e w' ⟨rfl, rfl⟩
      go_wp2_with fail
      refine (HGC.out _).mono ?_
      rintro e w' ⟨rfl, rfl⟩
      go_wp2_with (first | (go_at_call 29; refine (HM.out _ (by (exact kp))).mono ?_; rintro e w1 ⟨rfl, hk⟩) | fail)
      go_ret
      exact ⟨rfl, by (exact kp)⟩

end Go.Proofs.YtiacdpoldgfpbaaGreat
