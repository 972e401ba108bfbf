/-
  The walk of canon.Holds.
-/
import Derived.Test.YtnkehgohamjpaaaPHoldsC
namespace Go.Proofs.Ytnkehgohamjpaaa
set_option linter.unusedSimpArgs false
set_option linter.unusedVariables false
set_option maxHeartbeats 600000
open Go.RowKit

set_option maxRecDepth 100000 in
set_option maxHeartbeats 2000000 in
theorem holds_calls {F : Nat → Prop} {w : World} {sb : Nat} {M : St} (h : StoreRep F w sb M) (f : Int) (v : Edge) (l x : Int) (hv : v.ok) (hx0 : 0 ≤ x) (hx1 : x ≤ 65535) :
    Calls Try.prog 56 #[.pointer (some ⟨sb, 0, none⟩), .int .u8 f, .agg #[.int .u8 v.tag, .int .u32 v.to], .int .i64 l, .int .u16 x] w fun r w' => r = .returned (.tuple #[.bool (decide (mayC M f v l = 0) && hS M f x (M.n - l).toNat l v), .int .u8 (mayC M f v l)]) ∧ Keeps w w' := by
  have hmay := fun (W : World) (hW : Keeps w W) => may_calls' (h.keeps hW) f v l hv
  have hr := mayC_range M f v l
  by_cases c0 : mayC M f v l = 0
  · have hfb : isFormB f = true := by
      cases hb : isFormB f with
      | true => rfl
      | false => unfold mayC at c0; rw [if_pos hb] at c0; cases c0
    have hl01 : ¬ (l < 0 ∨ M.n < l) := by
      intro hh
      unfold mayC at c0
      rw [if_neg (by rw [hfb]; simp), if_pos hh] at c0
      cases c0
    have hlead : M.leads f v l = true := by
      cases hb : M.leads f v l with
      | true => rfl
      | false => unfold mayC at c0; rw [if_neg (by rw [hfb]; simp), if_neg hl01, if_pos hb] at c0; cases c0
    have hf15 : 1 ≤ f ∧ f ≤ 5 := by unfold isFormB at hfb; simpa using hfb
    rw [c0] at hmay ⊢
    rw [show (decide ((0 : Int) = 0) && hS M f x (M.n - l).toNat l v) = hS M f x (M.n - l).toNat l v from rfl]
    have HM := Lib.hid hmay
    have HREP := Lib.hid h
    have HG := Lib.hid (fun (W : World) (hW : Keeps w W) (id : Int) (hid : id ≤ 4294967295) => store_get (h.keeps hW) id hid)
    have HV := Lib.hid (fun (W : World) (hW : Keeps w W) => store_vars (h.keeps hW))
    have HWF := Lib.hid h.wf
    have n16 := h.wf.n16
    have n0 := h.wf.n0
    have HL := Lib.hid hlead
    have HF15 := Lib.hid hf15
    clear h hmay hr c0 hfb hlead hf15
    go_enter Try.func56, Try.ntmps56
    go_wp2_with (first | (go_at_call 91; refine (HM.out _ (by (repeat (first | with_reducible exact Keeps.refl _ | with_reducible assumption | with_reducible refine Keeps.alloc ?_ _ | with_reducible refine Keeps.drewN ?_ _ | with_reducible refine Keeps.drew ?_ | refine Keeps.setCell ?_ (by dsimp only; omega) _ | with_reducible refine Keeps.trans ?_ (by assumption))))).mono ?_; rintro e w1 ⟨rfl, hk⟩; have z0 : w1.cell? ⟨w.heap.size, 0, none⟩ = some (.int .u8 v.tag) := hk.cell (by simp); have z1 : w1.cell? ⟨w.heap.size, 1, none⟩ = some (.int .u32 v.to) := hk.cell (by simp); have zf := (fun o : Nat => hk.frz (a := ⟨w.heap.size, o, none⟩) (by simp) (by simp [go_sem])); have hk1 : Keeps w w1 := (by (repeat (first | with_reducible exact Keeps.refl _ | with_reducible assumption | with_reducible refine Keeps.alloc ?_ _ | with_reducible refine Keeps.drewN ?_ _ | with_reducible refine Keeps.drew ?_ | refine Keeps.setCell ?_ (by dsimp only; omega) _ | with_reducible refine Keeps.trans ?_ (by assumption))))) | fail)
    have HZ := Lib.hid zf
    have HK1 := Lib.hid hk1
    have hlt1 : w.heap.size < w1.heap.size := by have := hk.size; simp only [World.size_alloc] at this; omega
    clear zf hk1 hk
    go_loopg [3] ((M.n - l).toNat + 1) (fun gk s3 wr => ∃ (q : Int) (e : Edge) (K : Nat), s3 = .int .i64 q ∧ 0 ≤ q ∧ q ≤ M.n ∧ gk = (M.n - q).toNat + 1 ∧ M.n - q ≤ (K : Int) ∧ e.ok ∧ M.leads f e q = true ∧ hS M f x K q e = hS M f x (M.n - l).toNat l v ∧
      wr.cell? ⟨w.heap.size, 0, none⟩ = some (.int .u8 e.tag) ∧ wr.cell? ⟨w.heap.size, 1, none⟩ = some (.int .u32 e.to) ∧ (∀ o : Nat, wr.frozen? ⟨w.heap.size, o, none⟩ = false) ∧ w.heap.size < wr.heap.size ∧ Keeps w wr)
    case atStart => exact ⟨l, v, (M.n - l).toNat, rfl, by omega, by omega, rfl, by omega, hv, HL.out, rfl, z0, z1, HZ.out, hlt1, HK1.out⟩
    case round =>
      obtain ⟨q, e, K, rfl, hq0, hq1, hgk, hK, heo, hle, hs, y0, y1, yf, hlw, hk⟩ := hrel
      have HGK := Lib.hid hgk
      have HS := Lib.hid hs
      have HKr := Lib.hid hk
      have HLE := Lib.hid hle
      have HYF := Lib.hid yf
      have HEO := Lib.hid heo
      have to1 := heo.2.2
      have to0 := heo.2.1
      clear hgk hs hk hle yf heo
      by_cases hz : e.to = 0
      · have hres : hS M f x (M.n - l).toNat l v = false := by
          rw [← HS.out]
          cases K with
          | zero => exact decide_eq_false (fun hh => hh hz)
          | succ K => show (if e.to = 0 then false else _) = false; rw [if_pos hz]
        have HRES := Lib.hid hres
        clear hres
        go_wp2_with fail
        go_ret2
        exact ⟨by rw [HRES.out]; rfl, HKr.out⟩
      · 
        have hp : 0 < e.to := by omega
        cases hlk : look M.cs e.to with
        | none =>
          have hj := jump_none (x := x) HF15.out hz hlk (fun h5 => ((plainB_iff.1 (leads_iff.1 HLE.out).1).2.2.2.2.2.2.2 h5 hz).2) K q hq1 hK
          rw [← free_from HLE.out hz, HS.out] at hj
          have hg : ∀ W, Keeps w W → Calls Try.prog 51 #[.pointer (some ⟨sb, 0, none⟩), .int .u32 e.to] W fun r w' => r = .returned (.tuple #[.agg #[.int .u8 Rec.zero.form, .int .u8 Rec.zero.top, .int .u8 Rec.zero.bot, .int .u8 Rec.zero.lo.tag, .int .u32 Rec.zero.lo.to, .int .u8 Rec.zero.hi.tag, .int .u32 Rec.zero.hi.to], .bool false]) ∧ Keeps W w' := fun W hW => by have := HG.out W hW e.to to1; rw [hlk] at this; exact this
          have hfr0 : 0 ≤ freeI f e q M.n := by unfold freeI; split; exact n0; split; exact HEO.out.1.1; exact hq0
          obtain ⟨fr, hfr⟩ : ∃ fr, fr = freeI f e q M.n := ⟨_, rfl⟩
          have hfc : ∀ W, Calls Try.prog 93 #[.int .u8 f, .agg #[.int .u8 e.tag, .int .u32 e.to], .int .i64 q, .int .i64 M.n] W fun r w' => r = .returned (.int .i64 fr) ∧ Keeps W w' := fun W => by rw [hfr]; exact free_calls f e q M.n W HEO.out.1.1 HEO.out.1.2
          rw [← hfr] at hj hfr0
          have hcl := fun (W : World) => clear_calls x fr M.n W hx0 hx1 hfr0 (by omega)
          obtain ⟨c, hc⟩ : ∃ c, c = clearN x fr (M.n - fr).toNat := ⟨_, rfl⟩
          rw [← hc] at hj hcl
          have HGN := Lib.hid hg
          have HFR := Lib.hid hfc
          have HCL := Lib.hid hcl
          have HJ := Lib.hid hj
          clear hg hfc hcl hj hlk hc hfr hfr0 hK
          have yf0 := HYF.out
          rcases bool_cases c with hcb | hcb
          · subst hcb
            go_wp2_with (first | (go_at_call 51; refine (HGN.out _ HKr.out).mono ?_; rintro e2 w2 ⟨rfl, hg2⟩; have y0b := hg2.cell y0; have y1b := hg2.cell y1; have hlw2 : w.heap.size < w2.heap.size := (by have := hg2.size; omega); have hk2 := HKr.out.trans hg2) | (go_at_call 53; refine (HV.out _ (by (repeat (first | with_reducible exact Keeps.refl _ | with_reducible assumption | with_reducible refine Keeps.alloc ?_ _ | with_reducible refine Keeps.drewN ?_ _ | with_reducible refine Keeps.drew ?_ | refine Keeps.setCell ?_ (by dsimp only; omega) _ | with_reducible refine Keeps.trans ?_ (by assumption))))).mono ?_; rintro e3 w3 ⟨rfl, rfl⟩) | (go_at_call 93; refine (HFR.out _).mono ?_; rintro e4 w4 ⟨rfl, hg4⟩) | (go_at_call 92; refine (HCL.out _).mono ?_; rintro e5 w5 ⟨rfl, rfl⟩) | fail)
            go_ret2
            exact ⟨by rw [HJ.out]; rfl, by (repeat (first | with_reducible exact Keeps.refl _ | with_reducible assumption | with_reducible refine Keeps.alloc ?_ _ | with_reducible refine Keeps.drewN ?_ _ | with_reducible refine Keeps.drew ?_ | refine Keeps.setCell ?_ (by dsimp only; omega) _ | with_reducible refine Keeps.trans ?_ (by assumption)))⟩
          · subst hcb
            go_wp2_with (first | (go_at_call 51; refine (HGN.out _ HKr.out).mono ?_; rintro e2 w2 ⟨rfl, hg2⟩; have y0b := hg2.cell y0; have y1b := hg2.cell y1; have hlw2 : w.heap.size < w2.heap.size := (by have := hg2.size; omega); have hk2 := HKr.out.trans hg2) | (go_at_call 53; refine (HV.out _ (by (repeat (first | with_reducible exact Keeps.refl _ | with_reducible assumption | with_reducible refine Keeps.alloc ?_ _ | with_reducible refine Keeps.drewN ?_ _ | with_reducible refine Keeps.drew ?_ | refine Keeps.setCell ?_ (by dsimp only; omega) _ | with_reducible refine Keeps.trans ?_ (by assumption))))).mono ?_; rintro e3 w3 ⟨rfl, rfl⟩) | (go_at_call 93; refine (HFR.out _).mono ?_; rintro e4 w4 ⟨rfl, hg4⟩) | (go_at_call 92; refine (HCL.out _).mono ?_; rintro e5 w5 ⟨rfl, rfl⟩) | fail)
            go_ret2
            exact ⟨by rw [HJ.out]; rfl, by (repeat (first | with_reducible exact Keeps.refl _ | with_reducible assumption | with_reducible refine Keeps.alloc ?_ _ | with_reducible refine Keeps.drewN ?_ _ | with_reducible refine Keeps.drew ?_ | refine Keeps.setCell ?_ (by dsimp only; omega) _ | with_reducible refine Keeps.trans ?_ (by assumption)))⟩
        | some r =>
          obtain ⟨lf, lt, lg⟩ := leads_some HLE.out hlk
          have gr := HWF.out.goodRec hlk
          have rok : r.ok := by have := HREP.out.grec e.to; rw [hlk] at this; exact this
          have tb := gr.tb
          have bn := gr.bn
          obtain ⟨K', k1, k2⟩ := jump_some (x := x) HF15.out hz hlk (fun _ => lg) tb bn K q lt hK
          rw [← free_from HLE.out hz, HS.out] at k2
          have hg : ∀ W, Keeps w W → Calls Try.prog 51 #[.pointer (some ⟨sb, 0, none⟩), .int .u32 e.to] W fun r2 w' => r2 = .returned (.tuple #[.agg #[.int .u8 r.form, .int .u8 r.top, .int .u8 r.bot, .int .u8 r.lo.tag, .int .u32 r.lo.to, .int .u8 r.hi.tag, .int .u32 r.hi.to], .bool true]) ∧ Keeps W w' := fun W hW => by have := HG.out W hW e.to to1; rw [hlk] at this; exact this
          have hfr0 : 0 ≤ freeI f e q r.top := by unfold freeI; split; omega; split; exact HEO.out.1.1; exact hq0
          obtain ⟨fr, hfr⟩ : ∃ fr, fr = freeI f e q r.top := ⟨_, rfl⟩
          have hfc : ∀ W, Calls Try.prog 93 #[.int .u8 f, .agg #[.int .u8 e.tag, .int .u32 e.to], .int .i64 q, .int .i64 r.top] W fun r w' => r = .returned (.int .i64 fr) ∧ Keeps W w' := fun W => by rw [hfr]; exact free_calls f e q r.top W HEO.out.1.1 HEO.out.1.2
          rw [← hfr] at k2 hfr0
          have hcl := fun (W : World) => clear_calls x fr r.top W hx0 hx1 hfr0 (by omega)
          obtain ⟨c, hc⟩ : ∃ c, c = clearN x fr (r.top - fr).toNat := ⟨_, rfl⟩
          rw [← hc] at k2 hcl
          have rt := rok.top
          have rb := rok.bot
          have hsd := fun (W : World) => side_calls x r W hx0 hx1 rt.1 (by omega) rb.1 (by omega)
          have hsl := side_leads (x := x) HWF.out hlk
          rw [lf] at hsl
          have hsok : (sideE x r).ok := by unfold sideE; split; exact rok.hi; exact rok.lo
          obtain ⟨sd, hsd2⟩ : ∃ sd, sd = sideE x r := ⟨_, rfl⟩
          rw [← hsd2] at hsd hsl hsok k2
          have HGN := Lib.hid hg
          have HFR := Lib.hid hfc
          have HCL := Lib.hid hcl
          have HJ := Lib.hid k2
          have HSD := Lib.hid hsd
          have HSL := Lib.hid hsl
          have HSO := Lib.hid hsok
          have HK1' := Lib.hid k1
          clear hg hfc hcl k2 hlk hc hfr hfr0 hK gr rok hsd hsl hsok hsd2 lf lg k1
          have yf0 := HYF.out
          rcases bool_cases c with hcb | hcb
          · subst hcb
            go_wp2_with (first | (go_at_call 51; refine (HGN.out _ HKr.out).mono ?_; rintro e2 w2 ⟨rfl, hg2⟩; have y0b := hg2.cell y0; have y1b := hg2.cell y1; have hlw2 : w.heap.size < w2.heap.size := (by have := hg2.size; omega); have hk2 := HKr.out.trans hg2; have yf2 := (fun o : Nat => hg2.frz (a := ⟨w.heap.size, o, none⟩) hlw (yf0 o))) | (go_at_call 53; refine (HV.out _ (by (repeat (first | with_reducible exact Keeps.refl _ | with_reducible assumption | with_reducible refine Keeps.alloc ?_ _ | with_reducible refine Keeps.drewN ?_ _ | with_reducible refine Keeps.drew ?_ | refine Keeps.setCell ?_ (by dsimp only; omega) _ | with_reducible refine Keeps.trans ?_ (by assumption))))).mono ?_; rintro e3 w3 ⟨rfl, rfl⟩) | (go_at_call 93; refine (HFR.out _).mono ?_; rintro e4 w4 ⟨rfl, hg4⟩; obtain ⟨b0, b1, b2, b3, b4, b5, b6⟩ := box7 hg4) | (go_at_call 92; refine (HCL.out _).mono ?_; rintro e5 w5 ⟨rfl, rfl⟩) | fail)
            go_ret2
            exact ⟨by rw [HJ.out]; rfl, by (repeat (first | with_reducible exact Keeps.refl _ | with_reducible assumption | with_reducible refine Keeps.alloc ?_ _ | with_reducible refine Keeps.drewN ?_ _ | with_reducible refine Keeps.drew ?_ | refine Keeps.setCell ?_ (by dsimp only; omega) _ | with_reducible refine Keeps.trans ?_ (by assumption)))⟩
          · subst hcb
            go_wp2_with (first | (go_at_call 51; refine (HGN.out _ HKr.out).mono ?_; rintro e2 w2 ⟨rfl, hg2⟩; have y0b := hg2.cell y0; have y1b := hg2.cell y1; have hlw2 : w.heap.size < w2.heap.size := (by have := hg2.size; omega); have hk2 := HKr.out.trans hg2; have yf2 := (fun o : Nat => hg2.frz (a := ⟨w.heap.size, o, none⟩) hlw (yf0 o))) | (go_at_call 53; refine (HV.out _ (by (repeat (first | with_reducible exact Keeps.refl _ | with_reducible assumption | with_reducible refine Keeps.alloc ?_ _ | with_reducible refine Keeps.drewN ?_ _ | with_reducible refine Keeps.drew ?_ | refine Keeps.setCell ?_ (by dsimp only; omega) _ | with_reducible refine Keeps.trans ?_ (by assumption))))).mono ?_; rintro e3 w3 ⟨rfl, rfl⟩) | fail)
            refine (HFR.out _).mono ?_
            rintro e4 w4 ⟨rfl, hg4⟩
            obtain ⟨b0, b1, b2, b3, b4, b5, b6⟩ := box7 hg4
            have hs4 := hg4.size
            have hlw4 : w.heap.size < w4.heap.size := (by simp only [World.size_alloc] at hs4; omega)
            have hg24 : Keeps w2 w4 := ((Keeps.refl _).alloc _).trans hg4
            have yf4 := (fun o : Nat => hg24.frz (a := ⟨w.heap.size, o, none⟩) hlw2 (yf2 o))
            have y0d := hg24.cell y0b
            have y1d := hg24.cell y1b
            go_wp2_with (first | (go_at_call 92; refine (HCL.out _).mono ?_; rintro e5 w5 ⟨rfl, rfl⟩) | (go_at_call 94; refine (HSD.out _).mono ?_; rintro e6 w6 ⟨rfl, hg6⟩; have y0e := hg6.cell y0d; have y1e := hg6.cell y1d; have yf6 := (fun o : Nat => hg6.frz (a := ⟨w.heap.size, o, none⟩) hlw4 (yf4 o)); have yf60 := yf6 0; have yf61 := yf6 1; have hlw6 : w.heap.size < w6.heap.size := (by have := hg6.size; omega)) | fail)
            go_roundg ((M.n - (r.bot + 1)).toNat + 1)
            case rel => exact ⟨r.bot + 1, sd, K', rfl, by omega, by omega, rfl, HK1'.out, HSO.out, HSL.out, by rw [HJ.out]; rfl, by simp [go_sem, yf60, yf61, y0e, y1e, hlw6], by simp [go_sem, yf60, yf61, y0e, y1e, hlw6], fun o => by simp [go_sem, yf6 o], by simpa using hlw6, by (repeat (first | with_reducible exact Keeps.refl _ | with_reducible assumption | with_reducible refine Keeps.alloc ?_ _ | with_reducible refine Keeps.drewN ?_ _ | with_reducible refine Keeps.drew ?_ | refine Keeps.setCell ?_ (by dsimp only; omega) _ | with_reducible refine Keeps.trans ?_ (by assumption)))⟩
            case measure => have := HGK.out; omega
  · rw [decide_eq_false c0, Bool.false_and]
    obtain ⟨c, hc⟩ : ∃ c, c = mayC M f v l := ⟨_, rfl⟩
    rw [← hc] at hmay hr c0 ⊢
    have g0 : (c != 0) = true := by simp [c0]
    have HM := Lib.hid hmay
    clear h hmay hc
    go_enter Try.func56, Try.ntmps56
    go_wp2_with (first | (go_at_call 91; refine (HM.out _ (by (repeat (first | with_reducible exact Keeps.refl _ | with_reducible assumption | with_reducible refine Keeps.alloc ?_ _ | with_reducible refine Keeps.drewN ?_ _ | with_reducible refine Keeps.drew ?_ | refine Keeps.setCell ?_ (by dsimp only; omega) _ | with_reducible refine Keeps.trans ?_ (by assumption))))).mono ?_; rintro e w1 ⟨rfl, hk⟩) | fail)
    go_ret2
    exact ⟨rfl, by (repeat (first | with_reducible exact Keeps.refl _ | with_reducible assumption | with_reducible refine Keeps.alloc ?_ _ | with_reducible refine Keeps.drewN ?_ _ | with_reducible refine Keeps.drew ?_ | refine Keeps.setCell ?_ (by dsimp only; omega) _ | with_reducible refine Keeps.trans ?_ (by assumption)))⟩

end Go.Proofs.Ytnkehgohamjpaaa
