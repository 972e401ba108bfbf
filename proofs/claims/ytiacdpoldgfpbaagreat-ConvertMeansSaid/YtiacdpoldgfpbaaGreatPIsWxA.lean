/-
  The walk of the document's Right, form 5 (printed by wip/mk_right.py).
-/
import Derived.Test.YtiacdpoldgfpbaaGreatPIsWxD
import Derived.Test.YtiacdpoldgfpbaaGreatPRRightQxA
namespace Go.Proofs.YtiacdpoldgfpbaaGreat
set_option linter.unusedSimpArgs false
set_option linter.unusedVariables false
set_option maxHeartbeats 600000
open Go.RowKit

set_option maxRecDepth 100000 in
set_option maxHeartbeats 2000000 in
theorem ref16_right {F : Nat → Prop} {w : World} {mb : Nat} {M : St} {L : List (Int × Rec)} (h : RefRep F w mb M L) (v : Edge) (l : Int) (hv : v.ok) :
    Calls Tryz.prog 76 #[.pointer (some ⟨mb, 0, none⟩), .agg #[.int .u8 v.tag, .int .u32 v.to], .int .i64 l] w fun r w' => r = .returned (.bool (rightL M 5 v l)) ∧ Keeps w w' := by
  have hwf := Lib.hid h.wf
  have HRK := Lib.hid (fun (id : Int) (r : Rec) (hl : look M.cs id = some r) => h.fit _ ((h.mem id r).2 hl))
  have hn16 := h.wf.n16
  have hfew := h.few
  have hlenr := reachL_few h.wf h.few [v.to]
  have HREP := Lib.hid h
  have HAT := Lib.hid (fun (W : World) (hW : Keeps w W) (id : Int) => ref_at (h.keeps hW) id)
  have hleads := fun (W : World) (hW : Keeps w W) => ref_leads (h.keeps hW) 5 v l hv
  have HRE := Lib.hid (fun (W : World) (hW : Keeps w W) (b : Nat) (cap : Nat) (hE : IsEdges W (some ⟨b, 0, none⟩) 1 [v]) => ref_reach (h.keeps hW) (some ⟨b, 0, none⟩) 1 cap [v] hE (by omega))
  clear h
  rcases bool_cases (M.leads 5 v l) with hb | hb
  · rw [hb] at hleads
    have HL := Lib.hid hleads
    have HF := Lib.hid (rightL_no hb)
    clear hleads hb
    go_enter Tryz.func76, Tryz.ntmps76
    go_wp2_with (first | (go_at_call 68; refine (HL.out _ (by (exact kp))).mono ?_; rintro e w1 ⟨rfl, hk⟩) | fail)
    go_ret
    exact ⟨by rw [HF.out]; rfl, by (exact kp)⟩
  · rw [hb] at hleads
    have HL := Lib.hid hleads
    have HB := Lib.hid hb
    clear hleads hb
    go_enter Tryz.func76, Tryz.ntmps76
    go_wp2_with (first | (go_at_call 68; refine (HL.out _ (by (exact kp))).mono ?_; rintro e w1 ⟨rfl, hk⟩; have z0 : w1.cell? ⟨w.heap.size, 0, none⟩ = some (.int .u8 v.tag) := hk.cell (by simp); have z1 : w1.cell? ⟨w.heap.size, 1, none⟩ = some (.int .u32 v.to) := hk.cell (by simp); have hk1 : Keeps w w1 := (by (exact kp))) | fail)
    refine (HRE.out _ (by (exact kp)) _ _ (isEdges_one hv (by simp [go_sem]) (by simp [go_sem]))).mono ?_
    rintro e w2 ⟨vv, rfl, hrow, hk2⟩
    obtain ⟨ids, hids⟩ : ∃ ids, ids = reachL M.cs [v.to] := ⟨_, rfl⟩
    have hrow : IdRow w2 vv ids := by rw [hids]; exact hrow
    rw [← hids] at hlenr
    obtain ⟨a, cap, rfl, hc⟩ := hrow
    have HID := Lib.hid hids
    have HC := Lib.hid hc
    have HK2 := Lib.hid (show Keeps w w2 by (exact kp))
    clear hids hc hk2 hk hk1 z0 z1 hv
    go_wp2_with fail
    go_loopg [8] ids.length (fun gk s8 wr => ∃ d : Nat, d + gk = ids.length ∧ s8 = .int .i64 (d : Int) ∧ Keeps w2 wr ∧ ∀ (i : Nat) (id : Int), i < d → ids[i]? = some id → wrongB M 5 (grec (look M.cs id)) = false)
    case atStart => exact ⟨0, by omega, rfl, Keeps.refl _, fun i id hi => absurd hi (by omega)⟩
    case round =>
      obtain ⟨d, hd, rfl, hk, hw⟩ := hrel
      have HK := Lib.hid hk
      have HW := Lib.hid hw
      clear hk hw
      by_cases hlt : d < ids.length
      · obtain ⟨id, hid⟩ : ∃ id, ids[d]? = some id := ⟨_, List.getElem?_eq_getElem hlt⟩
        obtain ⟨g, rfl, hcell⟩ := HC.out d id hid
        have cd := HK.out.cell hcell
        have HI := Lib.hid hid
        obtain ⟨x, hx, gx, i2, i3⟩ := reach_rec hwf.out (d := d) (id := id) (es := [v.to]) (by rw [← HID.out]; exact hid)
        have t1 := gx.tb
        have t2 := gx.bn
        have hokx := HRK.out id x hx
        have tok : 0 ≤ x.top := hokx.top.1
        have tok2 : 0 ≤ x.bot := hokx.bot.1
        have tlo := hokx.lo.2.2
        have HX := Lib.hid hx
        have hkw : Keeps w wr := HK2.out.trans HK.out
        have hnext : Hid (wrongB M 5 (grec (look M.cs id)) = false → ∀ (i : Nat) (id' : Int), i < d + 1 → ids[i]? = some id' → wrongB M 5 (grec (look M.cs id')) = false) := Lib.hid (fun hf i id' hi hi' => by
          by_cases hid : i < d
          · exact HW.out i id' hid hi'
          · obtain rfl : i = d := by omega
            rw [HI.out] at hi'
            cases hi'
            exact hf)
        have hstop : Hid (wrongB M 5 (grec (look M.cs id)) = true → rightL M 5 v l = false) := Lib.hid (fun hf => rightL_bad (d := d) (id := id) (by rw [← HID.out]; exact HI.out) hf)
        clear hid hcell hokx
        rcases atI_look HREP.out id with ⟨x', hx', D, hLD, hq, hDl, hat⟩ | ⟨hl', _, _⟩
        case inr => rw [hx] at hl'; cases hl'
        rw [hx] at hx'
        cases hx'
        obtain ⟨lb, lcap, q0, ql, qm, q1, q2, q3, q4, q5, q6, q7⟩ := (HREP.out.keeps hkw).node hLD
        have HATx : Hid (∀ W, Keeps w W → Calls Tryz.prog 111 #[.pointer (some ⟨mb, 0, none⟩), .int .u32 id] W fun e w' => e = .returned (.int .i64 (D : Int)) ∧ W = w') :=
          Lib.hid (fun W hW => by have := HAT.out W hW id; rw [hat] at this; exact this)
        have hwx : wrongB M 5 (grec (look M.cs id)) = (decide (x.hi.to = 0) && decide (x.lo.tag = x.top + 1)) := by rw [hx]; rfl
        have HWx := Lib.hid hwx
        clear hwx
        have HKW := Lib.hid hkw
        clear hx hq hLD gx hkw hat
        go_upto_region 7 with fail
        go_cut [9] (fun s9 wx => ∃ B, s9 = .pointer (some ⟨B, 0, none⟩) ∧ (wx.cell? ⟨B, 0, none⟩ = some (.int .u8 x.form) ∧ wx.cell? ⟨B, 1, none⟩ = some (.int .u8 x.top) ∧ wx.cell? ⟨B, 2, none⟩ = some (.int .u8 x.bot) ∧ wx.cell? ⟨B, 3, none⟩ = some (.int .u8 x.lo.tag) ∧ wx.cell? ⟨B, 4, none⟩ = some (.int .u32 x.lo.to) ∧ wx.cell? ⟨B, 5, none⟩ = some (.int .u8 x.hi.tag) ∧ wx.cell? ⟨B, 6, none⟩ = some (.int .u32 x.hi.to)) ∧ Keeps wr wx)
        case first =>
          have n1 := lt_of_cell q0
          have n2 := lt_of_cell q1
          have n3 := lt_of_cell cd
          dsimp only at n1 n2 n3
          have n4 : wr.heap.size ≠ mb := by omega
          have n5 : wr.heap.size ≠ lb := by omega
          have n6 : wr.heap.size ≠ g := by omega
          go_region_held3 (fun w' => w'.cell? ⟨mb, 0, none⟩ = some (.slice (some ⟨lb, 0, none⟩) L.length lcap) ∧ w'.cell? ⟨g, d, none⟩ = some (.int .u32 id) ∧ w'.cell? ⟨lb, D * 8 + 1, none⟩ = some (.int .u8 x.form) ∧ w'.cell? ⟨lb, D * 8 + 2, none⟩ = some (.int .u8 x.top) ∧ w'.cell? ⟨lb, D * 8 + 3, none⟩ = some (.int .u8 x.bot) ∧ w'.cell? ⟨lb, D * 8 + 4, none⟩ = some (.int .u8 x.lo.tag) ∧ w'.cell? ⟨lb, D * 8 + 5, none⟩ = some (.int .u32 x.lo.to) ∧ w'.cell? ⟨lb, D * 8 + 6, none⟩ = some (.int .u8 x.hi.tag) ∧ w'.cell? ⟨lb, D * 8 + 7, none⟩ = some (.int .u32 x.hi.to)) (go_keep) ((first | (go_at_call 111; have hkw := HKW.out; refine (HATx.out _ (by (exact kp))).mono ?_; rintro e w' ⟨rfl, rfl⟩)))
          all_goals (try go_wp2_with fail)
          all_goals go_meet
          all_goals exact ⟨_, rfl, ⟨by simp [go_sem], by simp [go_sem], by simp [go_sem], by simp [go_sem], by simp [go_sem], by simp [go_sem], by simp [go_sem]⟩, by (exact kp)⟩
        case rest =>
          obtain ⟨B, rfl, ⟨b0, b1, b2, b3, b4, b5, b6⟩, hkc⟩ := hcut
          have HKC := Lib.hid hkc
          clear hkc
          by_cases c1 : x.hi.to = 0
          · by_cases c2 : x.lo.tag = x.top + 1
            · go_wp2_with fail
              go_ret
              exact ⟨by rw [hstop.out (by rw [HWx.out]; simp [c1, c2])]; rfl, by have := HK2.out; have := HK.out; have := HKC.out; (exact kp)⟩
            · go_wp2_with fail
              go_roundg (gk - 1)
              case rel => exact ⟨d + 1, by omega, by simp, by have := HK.out; have := HKC.out; (exact kp), hnext.out (by rw [HWx.out]; simp [c1, c2])⟩
              case measure => omega
          · go_wp2_with fail
            go_roundg (gk - 1)
            case rel => exact ⟨d + 1, by omega, by simp, by have := HK.out; have := HKC.out; (exact kp), hnext.out (by rw [HWx.out]; simp [c1])⟩
            case measure => omega
      · go_wp2
        go_ret
        have hd' : d = ids.length := by omega
        refine ⟨by rw [rightL_good HB.out (fun i id hi hi' => HW.out i id (by rw [← HID.out] at hi; omega) (by rw [HID.out]; exact hi'))]; rfl, HK2.out.trans HK.out⟩

end Go.Proofs.YtiacdpoldgfpbaaGreat

namespace Go.Proofs.YtiacdpoldgfpbaaGreat
set_option linter.unusedSimpArgs false
set_option linter.unusedVariables false
set_option maxHeartbeats 600000
open Go.RowKit

set_option maxRecDepth 100000 in
theorem ref12_right {F : Nat → Prop} {w : World} {sb : Nat} {M : St} {L : List (Int × Rec)} (h : RefRep F w sb M L) (v : Edge) (l : Int) (hv : v.ok) :
    Calls Tryz.prog 72 #[.pointer (some ⟨sb, 0, none⟩), .agg #[.int .u8 v.tag, .int .u32 v.to], .int .i64 l] w fun r w' => r = .returned (.bool (M.leads 1 v l)) ∧ Keeps w w' := by
  have HL := Lib.hid (fun (W : World) (hW : Keeps w W) => ref_leads (h.keeps hW) 1 v l hv)
  clear h
  obtain ⟨b, hb⟩ : ∃ b, b = M.leads 1 v l := ⟨_, rfl⟩
  rw [← hb] at HL ⊢
  clear hb
  go_enter Tryz.func72, Tryz.ntmps72
  go_wp2_with fail
  refine (HL.out _ (by (exact kp))).mono ?_
  rintro e w1 ⟨rfl, hk⟩
  go_wp2_with fail
  go_ret
  exact ⟨rfl, by (exact kp)⟩

set_option maxRecDepth 100000 in
theorem ref13_right {F : Nat → Prop} {w : World} {sb : Nat} {M : St} {L : List (Int × Rec)} (h : RefRep F w sb M L) (v : Edge) (l : Int) (hv : v.ok) :
    Calls Tryz.prog 73 #[.pointer (some ⟨sb, 0, none⟩), .agg #[.int .u8 v.tag, .int .u32 v.to], .int .i64 l] w fun r w' => r = .returned (.bool (M.leads 2 v l)) ∧ Keeps w w' := by
  have HL := Lib.hid (fun (W : World) (hW : Keeps w W) => ref_leads (h.keeps hW) 2 v l hv)
  clear h
  obtain ⟨b, hb⟩ : ∃ b, b = M.leads 2 v l := ⟨_, rfl⟩
  rw [← hb] at HL ⊢
  clear hb
  go_enter Tryz.func73, Tryz.ntmps73
  go_wp2_with fail
  refine (HL.out _ (by (exact kp))).mono ?_
  rintro e w1 ⟨rfl, hk⟩
  go_wp2_with fail
  go_ret
  exact ⟨rfl, by (exact kp)⟩

set_option maxRecDepth 100000 in
theorem rkright_b (sb : Nat) (l : Int) (b : Bool) (v : Edge) (w : World)
    (hf : ∀ W, Keeps w W → Calls Tryz.prog 72 #[.pointer (some ⟨sb, 0, none⟩), .agg #[.int .u8 v.tag, .int .u32 v.to], .int .i64 l] W fun e w' => e = .returned (.bool b) ∧ Keeps W w') :
    Calls Tryz.prog 32 #[.pointer (some ⟨sb, 0, none⟩), .int .u8 1, .agg #[.int .u8 v.tag, .int .u32 v.to], .int .i64 l] w fun e w' => e = .returned (.bool b) ∧ Keeps w w' := by
  have HF := Lib.hid hf
  clear hf
  go_enter Tryz.func32, Tryz.ntmps32
  go_wp2_with fail
  refine (HF.out _ (by (exact kp))).mono ?_
  rintro e w1 ⟨rfl, hk⟩
  go_wp2_with fail
  go_ret
  exact ⟨rfl, by (exact kp)⟩

set_option maxRecDepth 100000 in
theorem rkright_z (sb : Nat) (l : Int) (b : Bool) (v : Edge) (w : World)
    (hf : ∀ W, Keeps w W → Calls Tryz.prog 73 #[.pointer (some ⟨sb, 0, none⟩), .agg #[.int .u8 v.tag, .int .u32 v.to], .int .i64 l] W fun e w' => e = .returned (.bool b) ∧ Keeps W w') :
    Calls Tryz.prog 32 #[.pointer (some ⟨sb, 0, none⟩), .int .u8 2, .agg #[.int .u8 v.tag, .int .u32 v.to], .int .i64 l] w fun e w' => e = .returned (.bool b) ∧ Keeps w w' := by
  have HF := Lib.hid hf
  clear hf
  go_enter Tryz.func32, Tryz.ntmps32
  go_wp2_with fail
  refine (HF.out _ (by (exact kp))).mono ?_
  rintro e w1 ⟨rfl, hk⟩
  go_wp2_with fail
  go_ret
  exact ⟨rfl, by (exact kp)⟩

set_option maxRecDepth 100000 in
theorem rkright_c (sb : Nat) (l : Int) (b : Bool) (v : Edge) (w : World)
    (hf : ∀ W, Keeps w W → Calls Tryz.prog 74 #[.pointer (some ⟨sb, 0, none⟩), .agg #[.int .u8 v.tag, .int .u32 v.to], .int .i64 l] W fun e w' => e = .returned (.bool b) ∧ Keeps W w') :
    Calls Tryz.prog 32 #[.pointer (some ⟨sb, 0, none⟩), .int .u8 3, .agg #[.int .u8 v.tag, .int .u32 v.to], .int .i64 l] w fun e w' => e = .returned (.bool b) ∧ Keeps w w' := by
  have HF := Lib.hid hf
  clear hf
  go_enter Tryz.func32, Tryz.ntmps32
  go_wp2_with fail
  refine (HF.out _ (by (exact kp))).mono ?_
  rintro e w1 ⟨rfl, hk⟩
  go_wp2_with fail
  go_ret
  exact ⟨rfl, by (exact kp)⟩

set_option maxRecDepth 100000 in
theorem rkright_q (sb : Nat) (l : Int) (b : Bool) (v : Edge) (w : World)
    (hf : ∀ W, Keeps w W → Calls Tryz.prog 75 #[.pointer (some ⟨sb, 0, none⟩), .agg #[.int .u8 v.tag, .int .u32 v.to], .int .i64 l] W fun e w' => e = .returned (.bool b) ∧ Keeps W w') :
    Calls Tryz.prog 32 #[.pointer (some ⟨sb, 0, none⟩), .int .u8 4, .agg #[.int .u8 v.tag, .int .u32 v.to], .int .i64 l] w fun e w' => e = .returned (.bool b) ∧ Keeps w w' := by
  have HF := Lib.hid hf
  clear hf
  go_enter Tryz.func32, Tryz.ntmps32
  go_wp2_with fail
  refine (HF.out _ (by (exact kp))).mono ?_
  rintro e w1 ⟨rfl, hk⟩
  go_wp2_with fail
  go_ret
  exact ⟨rfl, by (exact kp)⟩

set_option maxRecDepth 100000 in
theorem rkright_t (sb : Nat) (l : Int) (b : Bool) (v : Edge) (w : World)
    (hf : ∀ W, Keeps w W → Calls Tryz.prog 76 #[.pointer (some ⟨sb, 0, none⟩), .agg #[.int .u8 v.tag, .int .u32 v.to], .int .i64 l] W fun e w' => e = .returned (.bool b) ∧ Keeps W w') :
    Calls Tryz.prog 32 #[.pointer (some ⟨sb, 0, none⟩), .int .u8 5, .agg #[.int .u8 v.tag, .int .u32 v.to], .int .i64 l] w fun e w' => e = .returned (.bool b) ∧ Keeps w w' := by
  have HF := Lib.hid hf
  clear hf
  go_enter Tryz.func32, Tryz.ntmps32
  go_wp2_with fail
  refine (HF.out _ (by (exact kp))).mono ?_
  rintro e w1 ⟨rfl, hk⟩
  go_wp2_with fail
  go_ret
  exact ⟨rfl, by (exact kp)⟩

set_option maxRecDepth 100000 in
theorem rkright_no (sb : Nat) (f l : Int) (v : Edge) (w : World) (h1 : f ≠ 1) (h2 : f ≠ 2) (h3 : f ≠ 3) (h4 : f ≠ 4) (h5 : f ≠ 5) :
    Calls Tryz.prog 32 #[.pointer (some ⟨sb, 0, none⟩), .int .u8 f, .agg #[.int .u8 v.tag, .int .u32 v.to], .int .i64 l] w fun e w' => e = .returned (.bool false) ∧ Keeps w w' := by
  have g1 : (f == 1) = false := by simp [h1]
  have g2 : (f == 2) = false := by simp [h2]
  have g3 : (f == 3) = false := by simp [h3]
  have g4 : (f == 4) = false := by simp [h4]
  have g5 : (f == 5) = false := by simp [h5]
  clear h1 h2 h3 h4 h5
  go_enter Tryz.func32, Tryz.ntmps32
  go_wp2
  go_ret
  exact ⟨rfl, by (exact kp)⟩

theorem ref17_right {F : Nat → Prop} {w : World} {sb : Nat} {M : St} {L : List (Int × Rec)} (h : RefRep F w sb M L) (f : Int) (e : Edge) (l : Int) (he : e.ok) :
    Calls Tryz.prog 32 #[.pointer (some ⟨sb, 0, none⟩), .int .u8 f, .agg #[.int .u8 e.tag, .int .u32 e.to], .int .i64 l] w fun r w' => r = .returned (.bool (kRight M f e l)) ∧ Keeps w w' := by
  by_cases f1 : f = 1
  · subst f1
    exact rkright_b sb l _ e w (fun W hW => ref12_right (h.keeps hW) e l he)
  by_cases f2 : f = 2
  · subst f2
    exact rkright_z sb l _ e w (fun W hW => ref13_right (h.keeps hW) e l he)
  by_cases f3 : f = 3
  · subst f3
    exact rkright_c sb l _ e w (fun W hW => ref14_right (h.keeps hW) e l he)
  by_cases f4 : f = 4
  · subst f4
    exact rkright_q sb l _ e w (fun W hW => ref15_right (h.keeps hW) e l he)
  by_cases f5 : f = 5
  · subst f5
    exact rkright_t sb l _ e w (fun W hW => ref16_right (h.keeps hW) e l he)
  have e1 : kRight M f e l = false := by unfold kRight; rw [if_neg f1, if_neg f2, if_neg f3, if_neg f4, if_neg f5]
  rw [e1]
  exact rkright_no sb f l e w f1 f2 f3 f4 f5

end Go.Proofs.YtiacdpoldgfpbaaGreat

namespace Go.Proofs.YtiacdpoldgfpbaaGreat
set_option linter.unusedSimpArgs false
set_option linter.unusedVariables false
set_option maxHeartbeats 600000
open Go.RowKit

set_option maxRecDepth 100000 in
theorem stays_low (sb mb : Nat) (a : Option Addr) (len cap : Nat) (ids : Nat → Int) (rs : Nat → Rec) (w : World) (hl : len ≤ 1048576)
    (c0 : w.cell? ⟨mb, 0, none⟩ = some (.slice a len cap))
    (hv : ∀ i, i < len → ∃ lb, a = some ⟨lb, 0, none⟩ ∧ ∀ j, j < 8 → w.cell? ⟨lb, i * 8 + j, none⟩ = (nodeVals (ids i, rs i))[j]?)
    (hget : ∀ i, i < len → ∀ W, Keeps w W → Calls Tryz.prog 37 #[.pointer (some ⟨sb, 0, none⟩), .int .u32 (ids i)] W fun e w' => e = .returned (.tuple #[.agg #[.int .u8 (rs i).form, .int .u8 (rs i).top, .int .u8 (rs i).bot, .int .u8 (rs i).lo.tag, .int .u32 (rs i).lo.to, .int .u8 (rs i).hi.tag, .int .u32 (rs i).hi.to], .bool true]) ∧ Keeps W w') :
    Calls Tryz.prog 33 #[.pointer (some ⟨sb, 0, none⟩), .pointer (some ⟨mb, 0, none⟩)] w fun e w' => e = .returned (.bool true) ∧ Keeps w w' := by
  have HV := Lib.hid hv
  have HG := Lib.hid hget
  clear hv hget
  go_enter Tryz.func33, Tryz.ntmps33
  go_wp2_with fail
  go_loopg [5] len (fun gk i wr => ∃ d : Nat, d + gk = len ∧ i = .int .i64 (d : Int) ∧ Keeps w wr)
  case atStart => exact ⟨0, by omega, rfl, Keeps.refl _⟩
  case round =>
    obtain ⟨d, hd, rfl, hk⟩ := hrel
    have i0 := hk.cell c0
    have hmb : mb < wr.heap.size := lt_of_cell i0
    by_cases hlt : d < len
    · obtain ⟨lb, rfl, hc⟩ := HV.out d hlt
      have hsv := fun j hj => hk.cell ((hc j hj).trans (List.getElem?_eq_getElem (by rw [nodeVals_length]; exact hj)))
      have s0 : wr.cell? ⟨lb, d * 8, none⟩ = some (.int .u32 (ids d)) := hsv 0 (by omega)
      have s1 : wr.cell? ⟨lb, d * 8 + 1, none⟩ = some (.int .u8 (rs d).form) := hsv 1 (by omega)
      have s2 : wr.cell? ⟨lb, d * 8 + 2, none⟩ = some (.int .u8 (rs d).top) := hsv 2 (by omega)
      have s3 : wr.cell? ⟨lb, d * 8 + 3, none⟩ = some (.int .u8 (rs d).bot) := hsv 3 (by omega)
      have s4 : wr.cell? ⟨lb, d * 8 + 4, none⟩ = some (.int .u8 (rs d).lo.tag) := hsv 4 (by omega)
      have s5 : wr.cell? ⟨lb, d * 8 + 5, none⟩ = some (.int .u32 (rs d).lo.to) := hsv 5 (by omega)
      have s6 : wr.cell? ⟨lb, d * 8 + 6, none⟩ = some (.int .u8 (rs d).hi.tag) := hsv 6 (by omega)
      have s7 : wr.cell? ⟨lb, d * 8 + 7, none⟩ = some (.int .u32 (rs d).hi.to) := hsv 7 (by omega)
      have hlb : lb < wr.heap.size := lt_of_cell s0
      clear hsv hc
      have HGd := Lib.hid (HG.out d hlt)
      have hq : ∀ W, (binOp .neq 72 (.agg #[.int .u8 (rs d).form, .int .u8 (rs d).top, .int .u8 (rs d).bot, .int .u8 (rs d).lo.tag, .int .u32 (rs d).lo.to, .int .u8 (rs d).hi.tag, .int .u32 (rs d).hi.to]) (.agg #[.int .u8 (rs d).form, .int .u8 (rs d).top, .int .u8 (rs d).bot, .int .u8 (rs d).lo.tag, .int .u32 (rs d).lo.to, .int .u8 (rs d).hi.tag, .int .u32 (rs d).hi.to])).run Tryz.prog W = .ok (.bool false) W := fun W => by rw [run_neq_rec]; simp
      go_wp2_with (go_at_call 37; refine (HGd.out _ hk).mono ?_; rintro e w2 ⟨rfl, hb⟩; have hk2 := hk.trans hb; have j0 := hb.cell i0; have v0 := hb.cell s0; have v1 := hb.cell s1; have v2 := hb.cell s2; have v3 := hb.cell s3; have v4 := hb.cell s4; have v5 := hb.cell s5; have v6 := hb.cell s6; have v7 := hb.cell s7; have hsz := hb.size; have hmb2 : mb < w2.heap.size := (by omega); have hlb2 : lb < w2.heap.size := (by omega))
      clear i0 s0 s1 s2 s3 s4 s5 s6 s7
      go_quiet (fail)
      go_wp2
      go_roundg (gk - 1)
      case rel => exact ⟨d + 1, by omega, by simp, by (exact kp)⟩
      case measure => omega
    · have hdl : ¬ (d : Int) < (len : Int) := by omega
      go_wp2
      go_ret
      exact ⟨rfl, by (exact kp)⟩

theorem stays_calls {F G : Nat → Prop} {w : World} {sb mb : Nat} {M M' : St} {L : List (Int × Rec)} (hS : StoreRep F w sb M') (hR : RefRep G w mb M L) (hE : Ext M M') :
    Calls Tryz.prog 33 #[.pointer (some ⟨sb, 0, none⟩), .pointer (some ⟨mb, 0, none⟩)] w fun e w' => e = .returned (.bool true) ∧ Keeps w w' := by
  obtain ⟨a, cap, c0, hc⟩ := hR.cell
  have hat : ∀ i, i < L.length → look M'.cs (L[i]?.getD (0, Rec.zero)).1 = some (L[i]?.getD (0, Rec.zero)).2 := fun i hi => by
    rw [List.getElem?_eq_getElem hi]
    exact hE.sub _ _ ((hR.mem _ _).1 (List.getElem_mem hi))
  refine stays_low sb mb a L.length cap (fun i => (L[i]?.getD (0, Rec.zero)).1) (fun i => (L[i]?.getD (0, Rec.zero)).2) w hR.le c0 ?_ ?_
  · intro i hi
    obtain ⟨lb, rfl, _, hv⟩ := hc (by omega)
    refine ⟨lb, rfl, fun j hj => ?_⟩
    rw [hv i _ (List.getElem?_eq_getElem hi) j hj, List.getElem?_eq_getElem hi]
    rfl
  · intro i hi W hW
    have hl := hat i hi
    have hid := (look_some hl).2.1
    have hfew : M'.cs.length ≤ 1048576 := by
      obtain ⟨⟨ab, ib, ts, Fa, Fi, _, h2, _⟩, _⟩ := hS
      exact h2.few
    have := store_get (hS.keeps hW) (L[i]?.getD (0, Rec.zero)).1 (by omega)
    rw [hl] at this
    exact this

end Go.Proofs.YtiacdpoldgfpbaaGreat
