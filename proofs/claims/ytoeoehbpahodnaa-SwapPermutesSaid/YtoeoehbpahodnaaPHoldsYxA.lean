/-
  Arguments that came in, opened; and read again behind a call below which nothing has turned.
-/
import Derived.Test.YtoeoehbpahodnaaPHoldsX
import Derived.Test.YtoeoehbpahodnaaPIsWxA
namespace Go.Proofs.Ytoeoehbpahodnaa
set_option linter.unusedSimpArgs false
set_option linter.unusedVariables false
set_option maxHeartbeats 600000
open Go.ChangeShapes Go.WideShapes Go.ChangeAt Go.RowKit Go.Joins Go.Deep

theorem wf_u8 {n : Int} (h : (Lit.int .u8 n).wf = true) : 0 ≤ n ∧ n ≤ 255 := by
  unfold Lit.wf at h
  simp only [Bool.and_eq_true, decide_eq_true_eq] at h
  exact h

theorem wf_u32 {n : Int} (h : (Lit.int .u32 n).wf = true) : 0 ≤ n ∧ n ≤ 4294967295 := by
  unfold Lit.wf at h
  simp only [Bool.and_eq_true, decide_eq_true_eq] at h
  exact h

set_option maxRecDepth 100000 in
theorem edge_cells {H : Type} {enc : TypeId × Value → H} {W : World} {base : Nat} {spare : Nat → Bool} {held : Bool} {n : Nat} {cs : List Value} {x : DataW H × List MemPlace}
    (h : DataW.trod enc Try.prog W base spare held n 63 cs = some x) : ∃ e : Edge, e.ok ∧ cs = [.int .u8 e.tag, .int .u32 e.to] := by
  obtain ⟨xs, m, _, _, hlen, hxs, hf⟩ := DataW.trod_struct Try.underlying63 h
  have hC : Try.prog.cellsOf 63 = 2 := by kernel_rfl
  have C8 : Try.prog.cellsOf 5 = 1 := by kernel_rfl
  have C32 : Try.prog.cellsOf 61 = 1 := by kernel_rfl
  rw [hC] at hlen
  have f0 := hf 0 _ rfl
  have f1 := hf 1 _ rfl
  rw [List.getElem?_eq_getElem (by rw [hxs]; decide)] at f0 f1
  obtain ⟨a, ha, _, wa⟩ := DataW.trod_int Try.underlying5 f0
  obtain ⟨b, hb, _, wb⟩ := DataW.trod_int Try.underlying61 f1
  match cs, hlen with
  | [c0, c1], _ =>
    simp [C8, C32] at ha hb
    exact ⟨⟨a, b⟩, ⟨wf_u8 wa, wf_u32 wb⟩, by rw [ha, hb]⟩

set_option maxRecDepth 100000 in
theorem rec_cells {H : Type} {enc : TypeId × Value → H} {W : World} {base : Nat} {spare : Nat → Bool} {held : Bool} {n : Nat} {cs : List Value} {x : DataW H × List MemPlace}
    (h : DataW.trod enc Try.prog W base spare held n 74 cs = some x) : ∃ r : Rec, r.ok ∧ cs = recVals r := by
  obtain ⟨xs, m, _, _, hlen, hxs, hf⟩ := DataW.trod_struct Try.underlying74 h
  have hC : Try.prog.cellsOf 74 = 7 := by kernel_rfl
  have CF : Try.prog.cellsOf 60 = 1 := by kernel_rfl
  have C8 : Try.prog.cellsOf 5 = 1 := by kernel_rfl
  have CE : Try.prog.cellsOf 63 = 2 := by kernel_rfl
  rw [hC] at hlen
  have f0 := hf 0 _ rfl
  have f1 := hf 1 _ rfl
  have f2 := hf 2 _ rfl
  have f3 := hf 3 _ rfl
  have f4 := hf 4 _ rfl
  rw [List.getElem?_eq_getElem (by rw [hxs]; decide)] at f0 f1 f2 f3 f4
  obtain ⟨a, ha, _, wa⟩ := DataW.trod_int Try.underlying60 f0
  obtain ⟨b, hb, _, wb⟩ := DataW.trod_int Try.underlying5 f1
  obtain ⟨c, hc, _, wc⟩ := DataW.trod_int Try.underlying5 f2
  obtain ⟨lo, wl, hlo⟩ := edge_cells f3
  obtain ⟨hi, wh, hhi⟩ := edge_cells f4
  match cs, hlen with
  | [c0, c1, c2, c3, c4, c5, c6], _ =>
    simp [C8, CF, CE] at ha hb hc hlo hhi
    refine ⟨⟨a, b, c, lo, hi⟩, ⟨wf_u8 wa, wf_u8 wb, wf_u8 wc, wl, wh⟩, ?_⟩
    rw [ha, hb, hc, hlo.1, hlo.2, hhi.1, hhi.2]
    rfl

set_option maxRecDepth 100000 in
theorem open_recs {H : Type} {enc : TypeId × Value → H} {W : World} {base : Nat} {spare : Nat → Bool} {held : Bool} {a : Option Addr} {len cap : Nat} {d : DataW H} {p : List MemPlace}
    (h : DataW.Trod enc Try.prog W base spare held 22 (.slice a len cap) d p) : ∃ rs : List Rec, IsRecs W a len rs := by
  obtain ⟨rs, h1, h2⟩ := open_structs (k := 7) (fun (r : Rec) cs => r.ok ∧ cs = recVals r) Try.underlying22 (by kernel_rfl) (by decide) (fun n cs x hx => by
    obtain ⟨r, h1, h2⟩ := rec_cells hx
    exact ⟨by rw [h2]; rfl, r, h1, h2⟩) h
  refine ⟨rs, h1, fun i r hr => ?_⟩
  obtain ⟨b, off, cs, ha, ⟨hok, rfl⟩, hc⟩ := h2 i r hr
  exact ⟨hok, b, off, ha, hc⟩

end Go.Proofs.Ytoeoehbpahodnaa

namespace Go.Proofs.Ytoeoehbpahodnaa
set_option linter.unusedSimpArgs false
set_option linter.unusedVariables false
set_option maxHeartbeats 600000
open Go.RowKit

def bitI (b : Bool) : Int := if b then 1 else 0

theorem value_calls (x k : Int) (w : World) (hx0 : 0 ≤ x) (hx1 : x ≤ 65535) (hk0 : 0 ≤ k) (hk1 : k ≤ 16) :
    Calls Try.prog 94 #[.int .i64 x, .int .i64 k] w fun e w' => e = .returned (.int .i64 (bitI (bitB x k))) ∧ w = w' := by
  obtain ⟨n, rfl⟩ : ∃ n : Nat, k = (n : Int) := ⟨k.toNat, by omega⟩
  have HS := Lib.hid (size_calls n (by omega) w)
  have hp1 : 2 ^ n ≤ 2 ^ 16 := Nat.pow_le_pow_right (by decide) (by omega)
  have hp0 : 0 < 2 ^ n := Nat.pow_pos (by decide)
  have e16 : (2 : Nat) ^ 16 = 65536 := rfl
  have hv : bitI (bitB x n) = x / ((2 ^ n : Nat) : Int) % 2 := by
    unfold bitI bitB
    have e1 : ((2 ^ n : Nat) : Int) = 2 ^ (n : Int).toNat := by push_cast; rfl
    rw [e1]
    by_cases h : x / 2 ^ (n : Int).toNat % 2 = 1
    · rw [decide_eq_true h, h]; rfl
    · rw [decide_eq_false h]; show (0 : Int) = _; omega
  rw [hv]
  obtain ⟨p, hp⟩ : ∃ p, p = 2 ^ n := ⟨_, rfl⟩
  rw [← hp] at HS hp1 hp0 ⊢
  rw [e16] at hp1
  clear hp hv
  have pp : (p : Int) ≠ 0 := by omega
  have g0 : ((p : Int) == 0) = false := by simp; omega
  have e1 : x.tdiv (p : Int) = x / (p : Int) := Int.tdiv_eq_ediv_of_nonneg hx0
  have hq0 : 0 ≤ x / (p : Int) := Int.ediv_nonneg hx0 (by omega)
  have hq1 : x / (p : Int) ≤ x := Int.ediv_le_self _ hx0
  have e2 : (x / (p : Int)).tmod 2 = x / (p : Int) % 2 := Int.tmod_eq_emod_of_nonneg hq0
  go_enter Try.func94, Try.ntmps94
  go_wp2_with (first | (go_at_call 47; refine HS.out.mono ?_; rintro e w' ⟨rfl, rfl⟩) | fail)
  go_ret
  exact ⟨by rfl, rfl⟩

theorem ris_calls (f : Int) (w : World) : Calls Try.prog 70 #[.int .u8 f] w fun e w' => e = .returned (.bool (isFormB f)) ∧ w = w' := by
  unfold isFormB
  by_cases h1 : 1 ≤ f
  · by_cases h2 : f ≤ 5
    · rw [decide_eq_true h1, decide_eq_true h2]
      go_enter Try.func70, Try.ntmps70
      go_wp2
      go_ret
      exact ⟨rfl, rfl⟩
    · rw [decide_eq_true h1, decide_eq_false h2]
      go_enter Try.func70, Try.ntmps70
      go_wp2
      go_ret
      exact ⟨rfl, rfl⟩
  · rw [decide_eq_false h1]
    go_enter Try.func70, Try.ntmps70
    go_wp2
    go_ret
    exact ⟨rfl, rfl⟩

end Go.Proofs.Ytoeoehbpahodnaa

namespace Go.Proofs.Ytoeoehbpahodnaa
set_option linter.unusedSimpArgs false
set_option linter.unusedVariables false
set_option maxHeartbeats 600000
open Go.RowKit

theorem rmay_calls {F : Nat → Prop} {w : World} {sb : Nat} {M : St} {L : List (Int × Rec)} (h : RefRep F w sb M L) (f : Int) (v : Edge) (l : Int) (hv : v.ok) :
    Calls Try.prog 38 #[.pointer (some ⟨sb, 0, none⟩), .int .u8 f, .agg #[.int .u8 v.tag, .int .u32 v.to], .int .i64 l] w fun r w' => r = .returned (.int .i64 (mayC M f v l)) ∧ Keeps w w' := by
  have hld := fun (W : World) (hW : Keeps w W) => ref_leads (h.keeps hW) f v l hv
  have hfc := ris_calls f
  have c3 := h.vars
  have hsb := h.pos
  have hsb1 : sb < w.heap.size + 1 := by omega
  rcases bool_cases (isFormB f) with hb | hb
  · have e : mayC M f v l = 4 := by unfold mayC; rw [if_pos hb]
    rw [e]
    rw [hb] at hfc
    have HFC := Lib.hid hfc
    clear h hld hfc hb e
    go_enter Try.func38, Try.ntmps38
    go_wp2_with (first | (go_at_call 70; refine (HFC.out _).mono ?_; rintro e w' ⟨rfl, rfl⟩) | fail)
    go_ret
    exact ⟨rfl, by (exact kp)⟩
  · rw [hb] at hfc
    have HFC := Lib.hid hfc
    clear hfc
    by_cases c1 : l < 0 ∨ M.n < l
    · have e : mayC M f v l = 3 := by unfold mayC; rw [if_neg (by rw [hb]; simp), if_pos c1]
      rw [e]
      clear h hld hb e
      by_cases c0 : l < 0
      · go_enter Try.func38, Try.ntmps38
        go_wp2_with (first | (go_at_call 70; refine (HFC.out _).mono ?_; rintro e w' ⟨rfl, rfl⟩) | fail)
        all_goals go_ret
        all_goals exact ⟨rfl, by (exact kp)⟩
      · have c2 : M.n < l := by omega
        go_enter Try.func38, Try.ntmps38
        go_wp2_with (first | (go_at_call 70; refine (HFC.out _).mono ?_; rintro e w' ⟨rfl, rfl⟩) | fail)
        all_goals go_ret
        all_goals exact ⟨rfl, by (exact kp)⟩
    · have d0 : ¬ l < 0 := by omega
      have d1 : ¬ M.n < l := by omega
      have e : mayC M f v l = if M.leads f v l = false then 1 else 0 := by unfold mayC; rw [if_neg (by rw [hb]; simp), if_neg c1]
      rw [e]
      obtain ⟨b, hb2⟩ : ∃ b, b = M.leads f v l := ⟨_, rfl⟩
      rw [← hb2] at hld ⊢
      have HLD := Lib.hid hld
      clear h hld hb e c1 hb2
      cases b
      all_goals go_enter Try.func38, Try.ntmps38
      all_goals go_wp2_with (first | (go_at_call 70; refine (HFC.out _).mono ?_; rintro e w' ⟨rfl, rfl⟩) | (go_at_call 44; refine (HLD.out _ (by (exact kp))).mono ?_; rintro e w1 ⟨rfl, hk⟩) | fail)
      all_goals go_ret
      all_goals exact ⟨rfl, by (exact kp)⟩

set_option maxRecDepth 100000 in
set_option maxHeartbeats 4000000 in
theorem rh_left (sb : Nat) (f l n x : Int) (e : Edge) (b R : Bool) (w : World) (hsb : sb < w.heap.size) (hf : 1 ≤ f ∧ f ≤ 5) (hz : e.to ≠ 0) (ho : e.ok) (hl0 : 0 ≤ l) (hln : l < n) (hn : n ≤ 16) (c3 : w.cell? ⟨sb, 3, none⟩ = some (.int .i64 n))
    (ha : ∀ W, Keeps w W → Calls Try.prog 74 #[.pointer (some ⟨sb, 0, none⟩), .int .u32 e.to] W fun r w' => r = .returned (.int .i64 (-1)) ∧ W = w')
    (hv : ∀ W, Calls Try.prog 94 #[.int .i64 x, .int .i64 l] W fun r w' => r = .returned (.int .i64 (bitI b)) ∧ W = w')
    (hi : ∀ W, Keeps w W → Calls Try.prog 95 #[.pointer (some ⟨sb, 0, none⟩), .int .u8 f, .agg #[.int .u8 e.tag, .int .u32 e.to], .int .i64 (l + 1), .int .i64 x] W fun r w' => r = .returned (.bool R) ∧ Keeps W w') :
    Calls Try.prog 95 #[.pointer (some ⟨sb, 0, none⟩), .int .u8 f, .agg #[.int .u8 e.tag, .int .u32 e.to], .int .i64 l, .int .i64 x] w fun r w' => r = .returned (.bool (if zeroAt f e l && b then false else R)) ∧ Keeps w w' := by
  have t0 : 0 ≤ e.tag := ho.1.1
  have t1 : e.tag ≤ 255 := ho.1.2
  have hp : 0 < e.to := by have := ho.2.1; omega
  have hsb1 : sb < w.heap.size + 1 := by omega
  have hg : ∀ d : Int, l < n := fun _ => hln
  have HA := Lib.hid ha
  have HV := Lib.hid hv
  have HI := Lib.hid hi
  clear ha hv hi hg
  by_cases h1 : f = 1
  · subst h1
    rw [show zeroAt 1 e l = false from rfl]
    cases b
    all_goals (go_enter Try.func95, Try.ntmps95; go_wp2_with (first | (go_at_call 74; refine (HA.out _ (by (exact kp))).mono ?_; rintro e2 w2 ⟨rfl, rfl⟩) | (go_at_call 94; refine (HV.out _).mono ?_; rintro e3 w3 ⟨rfl, rfl⟩) | (go_at_call 95; refine (HI.out _ (by (exact kp))).mono ?_; rintro e4 w4 ⟨rfl, hk4⟩) | fail); all_goals first | (exfalso; omega) | (go_ret; exact ⟨rfl, by (exact kp)⟩))
  · by_cases h2 : f = 2
    · subst h2
      rw [show zeroAt 2 e l = true from rfl]
      cases b
      all_goals (go_enter Try.func95, Try.ntmps95; go_wp2_with (first | (go_at_call 74; refine (HA.out _ (by (exact kp))).mono ?_; rintro e2 w2 ⟨rfl, rfl⟩) | (go_at_call 94; refine (HV.out _).mono ?_; rintro e3 w3 ⟨rfl, rfl⟩) | (go_at_call 95; refine (HI.out _ (by (exact kp))).mono ?_; rintro e4 w4 ⟨rfl, hk4⟩) | fail); all_goals first | (exfalso; omega) | (go_ret; exact ⟨rfl, by (exact kp)⟩))
    · by_cases h3 : f = 3
      · subst h3
        rw [show zeroAt 3 e l = false from rfl]
        cases b
        all_goals (go_enter Try.func95, Try.ntmps95; go_wp2_with (first | (go_at_call 74; refine (HA.out _ (by (exact kp))).mono ?_; rintro e2 w2 ⟨rfl, rfl⟩) | (go_at_call 94; refine (HV.out _).mono ?_; rintro e3 w3 ⟨rfl, rfl⟩) | (go_at_call 95; refine (HI.out _ (by (exact kp))).mono ?_; rintro e4 w4 ⟨rfl, hk4⟩) | fail); all_goals first | (exfalso; omega) | (go_ret; exact ⟨rfl, by (exact kp)⟩))
      · by_cases h4 : f = 4
        · subst h4
          rw [show zeroAt 4 e l = true from rfl]
          cases b
          all_goals (go_enter Try.func95, Try.ntmps95; go_wp2_with (first | (go_at_call 74; refine (HA.out _ (by (exact kp))).mono ?_; rintro e2 w2 ⟨rfl, rfl⟩) | (go_at_call 94; refine (HV.out _).mono ?_; rintro e3 w3 ⟨rfl, rfl⟩) | (go_at_call 95; refine (HI.out _ (by (exact kp))).mono ?_; rintro e4 w4 ⟨rfl, hk4⟩) | fail); all_goals first | (exfalso; omega) | (go_ret; exact ⟨rfl, by (exact kp)⟩))
        · have h5 : f = 5 := by omega
          subst h5
          by_cases ht : e.tag ≤ l
          · rw [show zeroAt 5 e l = true by unfold zeroAt; rw [decide_eq_true ht]; rfl]
            cases b
            all_goals (go_enter Try.func95, Try.ntmps95; go_wp2_with (first | (go_at_call 74; refine (HA.out _ (by (exact kp))).mono ?_; rintro e2 w2 ⟨rfl, rfl⟩) | (go_at_call 94; refine (HV.out _).mono ?_; rintro e3 w3 ⟨rfl, rfl⟩) | (go_at_call 95; refine (HI.out _ (by (exact kp))).mono ?_; rintro e4 w4 ⟨rfl, hk4⟩) | fail); all_goals first | (exfalso; omega) | (go_ret; exact ⟨rfl, by (exact kp)⟩))
          · rw [show zeroAt 5 e l = false by unfold zeroAt; rw [decide_eq_false ht]; rfl]
            cases b
            all_goals (go_enter Try.func95, Try.ntmps95; go_wp2_with (first | (go_at_call 74; refine (HA.out _ (by (exact kp))).mono ?_; rintro e2 w2 ⟨rfl, rfl⟩) | (go_at_call 94; refine (HV.out _).mono ?_; rintro e3 w3 ⟨rfl, rfl⟩) | (go_at_call 95; refine (HI.out _ (by (exact kp))).mono ?_; rintro e4 w4 ⟨rfl, hk4⟩) | fail); all_goals first | (exfalso; omega) | (go_ret; exact ⟨rfl, by (exact kp)⟩))

end Go.Proofs.Ytoeoehbpahodnaa

namespace Go.Proofs.Ytoeoehbpahodnaa
set_option linter.unusedSimpArgs false
set_option linter.unusedVariables false
set_option maxHeartbeats 600000
open Go.RowKit

set_option maxRecDepth 100000 in
set_option maxHeartbeats 4000000 in
theorem rh_above (sb : Nat) (f l n x : Int) (e : Edge) (b R : Bool) (w : World) (hsb : sb < w.heap.size) (hf : 1 ≤ f ∧ f ≤ 5) (hz : e.to ≠ 0) (ho : e.ok) (hl0 : 0 ≤ l) (hln : l < n) (hn : n ≤ 16) (c3 : w.cell? ⟨sb, 3, none⟩ = some (.int .i64 n))
    (top : Int) (lb D len cap : Nat) (hx0 : 0 ≤ top) (hx1 : top ≤ 255) (hlt : l < top) (c0 : w.cell? ⟨sb, 0, none⟩ = some (.slice (some ⟨lb, 0, none⟩) len cap)) (hD : D < len) (hlen : len ≤ 1048576) (s1 : w.cell? ⟨lb, D * 8 + 2, none⟩ = some (.int .u8 top))
    (ha : ∀ W, Keeps w W → Calls Try.prog 74 #[.pointer (some ⟨sb, 0, none⟩), .int .u32 e.to] W fun r w' => r = .returned (.int .i64 (D : Int)) ∧ W = w')
    (hv : ∀ W, Calls Try.prog 94 #[.int .i64 x, .int .i64 l] W fun r w' => r = .returned (.int .i64 (bitI b)) ∧ W = w')
    (hi : ∀ W, Keeps w W → Calls Try.prog 95 #[.pointer (some ⟨sb, 0, none⟩), .int .u8 f, .agg #[.int .u8 e.tag, .int .u32 e.to], .int .i64 (l + 1), .int .i64 x] W fun r w' => r = .returned (.bool R) ∧ Keeps W w') :
    Calls Try.prog 95 #[.pointer (some ⟨sb, 0, none⟩), .int .u8 f, .agg #[.int .u8 e.tag, .int .u32 e.to], .int .i64 l, .int .i64 x] w fun r w' => r = .returned (.bool (if zeroAt f e l && b then false else R)) ∧ Keeps w w' := by
  have t0 : 0 ≤ e.tag := ho.1.1
  have t1 : e.tag ≤ 255 := ho.1.2
  have hlb : lb < w.heap.size := lt_of_cell s1
  have hlb1 : lb < w.heap.size + 1 := by omega
  have hp : 0 < e.to := by have := ho.2.1; omega
  have hsb1 : sb < w.heap.size + 1 := by omega
  have hg : ∀ d : Int, l < n := fun _ => hln
  have HA := Lib.hid ha
  have HV := Lib.hid hv
  have HI := Lib.hid hi
  clear ha hv hi hg
  by_cases h1 : f = 1
  · subst h1
    rw [show zeroAt 1 e l = false from rfl]
    cases b
    all_goals (go_enter Try.func95, Try.ntmps95; go_wp2_with (first | (go_at_call 74; refine (HA.out _ (by (exact kp))).mono ?_; rintro e2 w2 ⟨rfl, rfl⟩) | (go_at_call 94; refine (HV.out _).mono ?_; rintro e3 w3 ⟨rfl, rfl⟩) | (go_at_call 95; refine (HI.out _ (by (exact kp))).mono ?_; rintro e4 w4 ⟨rfl, hk4⟩) | fail); all_goals first | (exfalso; omega) | (go_ret; exact ⟨rfl, by (exact kp)⟩))
  · by_cases h2 : f = 2
    · subst h2
      rw [show zeroAt 2 e l = true from rfl]
      cases b
      all_goals (go_enter Try.func95, Try.ntmps95; go_wp2_with (first | (go_at_call 74; refine (HA.out _ (by (exact kp))).mono ?_; rintro e2 w2 ⟨rfl, rfl⟩) | (go_at_call 94; refine (HV.out _).mono ?_; rintro e3 w3 ⟨rfl, rfl⟩) | (go_at_call 95; refine (HI.out _ (by (exact kp))).mono ?_; rintro e4 w4 ⟨rfl, hk4⟩) | fail); all_goals first | (exfalso; omega) | (go_ret; exact ⟨rfl, by (exact kp)⟩))
    · by_cases h3 : f = 3
      · subst h3
        rw [show zeroAt 3 e l = false from rfl]
        cases b
        all_goals (go_enter Try.func95, Try.ntmps95; go_wp2_with (first | (go_at_call 74; refine (HA.out _ (by (exact kp))).mono ?_; rintro e2 w2 ⟨rfl, rfl⟩) | (go_at_call 94; refine (HV.out _).mono ?_; rintro e3 w3 ⟨rfl, rfl⟩) | (go_at_call 95; refine (HI.out _ (by (exact kp))).mono ?_; rintro e4 w4 ⟨rfl, hk4⟩) | fail); all_goals first | (exfalso; omega) | (go_ret; exact ⟨rfl, by (exact kp)⟩))
      · by_cases h4 : f = 4
        · subst h4
          rw [show zeroAt 4 e l = true from rfl]
          cases b
          all_goals (go_enter Try.func95, Try.ntmps95; go_wp2_with (first | (go_at_call 74; refine (HA.out _ (by (exact kp))).mono ?_; rintro e2 w2 ⟨rfl, rfl⟩) | (go_at_call 94; refine (HV.out _).mono ?_; rintro e3 w3 ⟨rfl, rfl⟩) | (go_at_call 95; refine (HI.out _ (by (exact kp))).mono ?_; rintro e4 w4 ⟨rfl, hk4⟩) | fail); all_goals first | (exfalso; omega) | (go_ret; exact ⟨rfl, by (exact kp)⟩))
        · have h5 : f = 5 := by omega
          subst h5
          by_cases ht : e.tag ≤ l
          · rw [show zeroAt 5 e l = true by unfold zeroAt; rw [decide_eq_true ht]; rfl]
            cases b
            all_goals (go_enter Try.func95, Try.ntmps95; go_wp2_with (first | (go_at_call 74; refine (HA.out _ (by (exact kp))).mono ?_; rintro e2 w2 ⟨rfl, rfl⟩) | (go_at_call 94; refine (HV.out _).mono ?_; rintro e3 w3 ⟨rfl, rfl⟩) | (go_at_call 95; refine (HI.out _ (by (exact kp))).mono ?_; rintro e4 w4 ⟨rfl, hk4⟩) | fail); all_goals first | (exfalso; omega) | (go_ret; exact ⟨rfl, by (exact kp)⟩))
          · rw [show zeroAt 5 e l = false by unfold zeroAt; rw [decide_eq_false ht]; rfl]
            cases b
            all_goals (go_enter Try.func95, Try.ntmps95; go_wp2_with (first | (go_at_call 74; refine (HA.out _ (by (exact kp))).mono ?_; rintro e2 w2 ⟨rfl, rfl⟩) | (go_at_call 94; refine (HV.out _).mono ?_; rintro e3 w3 ⟨rfl, rfl⟩) | (go_at_call 95; refine (HI.out _ (by (exact kp))).mono ?_; rintro e4 w4 ⟨rfl, hk4⟩) | fail); all_goals first | (exfalso; omega) | (go_ret; exact ⟨rfl, by (exact kp)⟩))

end Go.Proofs.Ytoeoehbpahodnaa

namespace Go.Proofs.Ytoeoehbpahodnaa
set_option linter.unusedSimpArgs false
set_option linter.unusedVariables false
set_option maxHeartbeats 600000
open Go.RowKit

set_option maxRecDepth 100000 in
set_option maxHeartbeats 4000000 in
theorem rh_node (sb : Nat) (f n x : Int) (e : Edge) (r : Rec) (R : Bool) (w : World) (hsb : sb < w.heap.size) (hff : r.form = f) (hz : e.to ≠ 0) (ho : e.ok) (hro : r.ok) (htb : r.top ≤ r.bot) (hbn : r.bot < n) (hn : n ≤ 16) (c3 : w.cell? ⟨sb, 3, none⟩ = some (.int .i64 n))
    (lb D len cap : Nat) (c0 : w.cell? ⟨sb, 0, none⟩ = some (.slice (some ⟨lb, 0, none⟩) len cap)) (hD : D < len) (hlen : len ≤ 1048576)
    (s0 : w.cell? ⟨lb, D * 8 + 1, none⟩ = some (.int .u8 r.form)) (s1 : w.cell? ⟨lb, D * 8 + 2, none⟩ = some (.int .u8 r.top)) (s2 : w.cell? ⟨lb, D * 8 + 3, none⟩ = some (.int .u8 r.bot)) (s3 : w.cell? ⟨lb, D * 8 + 4, none⟩ = some (.int .u8 r.lo.tag)) (s4 : w.cell? ⟨lb, D * 8 + 5, none⟩ = some (.int .u32 r.lo.to)) (s5 : w.cell? ⟨lb, D * 8 + 6, none⟩ = some (.int .u8 r.hi.tag)) (s6 : w.cell? ⟨lb, D * 8 + 7, none⟩ = some (.int .u32 r.hi.to))
    (ha : ∀ W, Keeps w W → Calls Try.prog 74 #[.pointer (some ⟨sb, 0, none⟩), .int .u32 e.to] W fun r w' => r = .returned (.int .i64 (D : Int)) ∧ W = w')
    (hv : ∀ W k, 0 ≤ k → k ≤ 16 → Calls Try.prog 94 #[.int .i64 x, .int .i64 k] W fun r w' => r = .returned (.int .i64 (bitI (bitB x k))) ∧ W = w')
    (hi : ∀ W, Keeps w W → Calls Try.prog 95 #[.pointer (some ⟨sb, 0, none⟩), .int .u8 f, .agg #[.int .u8 (sideE x r).tag, .int .u32 (sideE x r).to], .int .i64 (r.bot + 1), .int .i64 x] W fun r w' => r = .returned (.bool R) ∧ Keeps W w') :
    Calls Try.prog 95 #[.pointer (some ⟨sb, 0, none⟩), .int .u8 f, .agg #[.int .u8 e.tag, .int .u32 e.to], .int .i64 r.top, .int .i64 x] w fun r w' => r = .returned (.bool R) ∧ Keeps w w' := by
  have t0 : 0 ≤ e.tag := ho.1.1
  have t1 : e.tag ≤ 255 := ho.1.2
  have r0 : 0 ≤ r.top := hro.top.1
  have r1 : r.top ≤ 255 := hro.top.2
  have r2 : 0 ≤ r.bot := hro.bot.1
  have r3 : r.bot ≤ 255 := hro.bot.2
  have hlb : lb < w.heap.size := lt_of_cell s1
  have hlb1 : lb < w.heap.size + 1 := by omega
  have hp : 0 < e.to := by have := ho.2.1; omega
  have hsb1 : sb < w.heap.size + 1 := by omega
  have hlt : r.top < n := by omega
  obtain ⟨bt, hbt⟩ : ∃ bt, bt = bitI (bitB x r.top) := ⟨_, rfl⟩
  have hvt := fun W => hv W r.top r0 (by omega)
  rw [← hbt] at hvt
  have HVT := Lib.hid hvt
  have HA := Lib.hid ha
  have HV := Lib.hid hv
  have HI := Lib.hid hi
  have HFF := Lib.hid hff
  obtain ⟨N, hN⟩ : ∃ N, N = (r.bot + 1 - r.top).toNat := ⟨_, rfl⟩
  have HN := Lib.hid hN
  clear ha hv hi hbt hvt hff hN ho hro
  go_enter Try.func95, Try.ntmps95
  go_wp2_with (first | (go_at_call 74; refine (HA.out _ (by (exact kp))).mono ?_; rintro e2 w2 ⟨rfl, rfl⟩) | (go_at_call 94; refine (HVT.out _).mono ?_; rintro e3 w3 ⟨rfl, rfl⟩) | fail)
  go_loopg [15, 16] N (fun gk s15 s16 wr => ∃ (sv : Bool) (k : Int), s15 = .bool sv ∧ s16 = .int .i64 k ∧ r.top ≤ k ∧ k ≤ r.bot + 1 ∧ gk = (r.bot + 1 - k).toNat ∧ (sv || !clearN x k gk) = !clearN x r.top N ∧ (wr.cell? ⟨(w.heap.size + 1), 0, none⟩ = some (.int .u8 r.form) ∧ wr.cell? ⟨(w.heap.size + 1), 1, none⟩ = some (.int .u8 r.top) ∧ wr.cell? ⟨(w.heap.size + 1), 2, none⟩ = some (.int .u8 r.bot) ∧ wr.cell? ⟨(w.heap.size + 1), 3, none⟩ = some (.int .u8 r.lo.tag) ∧ wr.cell? ⟨(w.heap.size + 1), 4, none⟩ = some (.int .u32 r.lo.to) ∧ wr.cell? ⟨(w.heap.size + 1), 5, none⟩ = some (.int .u8 r.hi.tag) ∧ wr.cell? ⟨(w.heap.size + 1), 6, none⟩ = some (.int .u32 r.hi.to)) ∧ Keeps w wr)
  case atStart => exact ⟨false, r.top, rfl, rfl, by omega, by omega, HN.out, rfl, ⟨by simp [go_sem], by simp [go_sem], by simp [go_sem], by simp [go_sem], by simp [go_sem], by simp [go_sem], by simp [go_sem]⟩, by (exact kp)⟩
  case round =>
    obtain ⟨sv, k, rfl, rfl, k0, k1, hgk, hcl, ⟨b0, b1, b2, b3, b4, b5, b6⟩, hk⟩ := hrel
    have HC := Lib.hid hcl
    have HG := Lib.hid hgk
    have HB7 := Lib.hid (And.intro b0 (And.intro b1 (And.intro b2 (And.intro b3 (And.intro b4 (And.intro b5 b6))))))
    clear hcl hgk
    by_cases hle : k ≤ r.bot
    · obtain ⟨g, rfl⟩ : ∃ g, gk = g + 1 := ⟨gk - 1, by have := HG.out; omega⟩
      have hg2 : g = (r.bot + 1 - (k + 1)).toNat := by have := HG.out; omega
      have HG2 := Lib.hid hg2
      have hcs : clearN x k (g + 1) = (!bitB x k && clearN x (k + 1) g) := rfl
      have HCS := Lib.hid hcs
      clear hg2 hcs
      cases sv
      · have hvk := fun W => HV.out W k (by omega) (by omega)
        rcases bool_cases (bitB x k) with hbit | hbit
        · rw [hbit] at hvk
          have HVK : Hid (∀ W, Calls Try.prog 94 #[.int .i64 x, .int .i64 k] W fun r w' => r = .returned (.int .i64 0) ∧ W = w') := Lib.hid hvk
          have HBIT := Lib.hid hbit
          clear hbit hvk
          go_wp2_with (first | (go_at_call 94; refine (HVK.out _).mono ?_; rintro e3 w3 ⟨rfl, rfl⟩) | fail)
          go_roundg g
          case rel => exact ⟨false, k + 1, rfl, rfl, by omega, by omega, HG2.out, by rw [← HC.out, HCS.out, HBIT.out]; rfl, HB7.out, hk⟩
          case measure => omega
        · rw [hbit] at hvk
          have HVK : Hid (∀ W, Calls Try.prog 94 #[.int .i64 x, .int .i64 k] W fun r w' => r = .returned (.int .i64 1) ∧ W = w') := Lib.hid hvk
          have HBIT := Lib.hid hbit
          clear hbit hvk
          go_wp2_with (first | (go_at_call 94; refine (HVK.out _).mono ?_; rintro e3 w3 ⟨rfl, rfl⟩) | fail)
          go_roundg g
          case rel => exact ⟨true, k + 1, rfl, rfl, by omega, by omega, HG2.out, by rw [← HC.out, HCS.out, HBIT.out]; rfl, HB7.out, hk⟩
          case measure => omega
      · go_wp2_with fail
        go_roundg g
        case rel => exact ⟨true, k + 1, rfl, rfl, by omega, by omega, HG2.out, by rw [← HC.out]; rfl, HB7.out, hk⟩
        case measure => omega
    · have hg0 : gk = 0 := by have := HG.out; omega
      have hsv : sv = !clearN x r.top (r.bot + 1 - r.top).toNat := by rw [← HN.out, ← HC.out, hg0]; cases sv <;> rfl
      have HSV := Lib.hid hsv
      clear hg0 hsv
      by_cases h3 : f = 3
      · have hse : sideE x r = if sv then r.hi else r.lo := by unfold sideE someB; rw [if_pos (HFF.out.trans h3), ← HSV.out]
        have HSE := Lib.hid hse
        subst h3
        clear hse
        cases sv
        · have HIL : Hid (∀ W, Keeps w W → Calls Try.prog 95 #[.pointer (some ⟨sb, 0, none⟩), .int .u8 3, .agg #[.int .u8 r.lo.tag, .int .u32 r.lo.to], .int .i64 (r.bot + 1), .int .i64 x] W fun r w' => r = .returned (.bool R) ∧ Keeps W w') := Lib.hid (fun W hW => by have := HI.out W hW; rw [HSE.out] at this; exact this)
          go_wp2_with (first | (go_at_call 95; refine (HIL.out _ (by (exact kp))).mono ?_; rintro e4 w4 ⟨rfl, hk4⟩) | fail)
          go_ret
          exact ⟨rfl, by (exact kp)⟩
        · have HIH : Hid (∀ W, Keeps w W → Calls Try.prog 95 #[.pointer (some ⟨sb, 0, none⟩), .int .u8 3, .agg #[.int .u8 r.hi.tag, .int .u32 r.hi.to], .int .i64 (r.bot + 1), .int .i64 x] W fun r w' => r = .returned (.bool R) ∧ Keeps W w') := Lib.hid (fun W hW => by have := HI.out W hW; rw [HSE.out] at this; exact this)
          go_wp2_with (first | (go_at_call 95; refine (HIH.out _ (by (exact kp))).mono ?_; rintro e4 w4 ⟨rfl, hk4⟩) | fail)
          go_ret
          exact ⟨rfl, by (exact kp)⟩
      · have g3 : (f != 3) = true := by simp [h3]
        have hvk := fun W => HV.out W r.bot r2 (by omega)
        obtain ⟨bb, hbb⟩ : ∃ bb, bb = bitB x r.bot := ⟨_, rfl⟩
        have hse : sideE x r = if bb then r.hi else r.lo := by unfold sideE someB; rw [if_neg (fun hh => h3 (HFF.out.symm.trans hh)), ← hbb]
        have HSE := Lib.hid hse
        rw [← hbb] at hvk
        clear hse hbb
        cases bb
        · have HVK : Hid (∀ W, Calls Try.prog 94 #[.int .i64 x, .int .i64 r.bot] W fun r w' => r = .returned (.int .i64 0) ∧ W = w') := Lib.hid hvk
          have HIL : Hid (∀ W, Keeps w W → Calls Try.prog 95 #[.pointer (some ⟨sb, 0, none⟩), .int .u8 f, .agg #[.int .u8 r.lo.tag, .int .u32 r.lo.to], .int .i64 (r.bot + 1), .int .i64 x] W fun r w' => r = .returned (.bool R) ∧ Keeps W w') := Lib.hid (fun W hW => by have := HI.out W hW; rw [HSE.out] at this; exact this)
          clear hvk
          go_wp2_with (first | (go_at_call 94; refine (HVK.out _).mono ?_; rintro e3 w3 ⟨rfl, rfl⟩) | (go_at_call 95; refine (HIL.out _ (by (exact kp))).mono ?_; rintro e4 w4 ⟨rfl, hk4⟩) | fail)
          go_ret
          exact ⟨rfl, by (exact kp)⟩
        · have HVK : Hid (∀ W, Calls Try.prog 94 #[.int .i64 x, .int .i64 r.bot] W fun r w' => r = .returned (.int .i64 1) ∧ W = w') := Lib.hid hvk
          have HIH : Hid (∀ W, Keeps w W → Calls Try.prog 95 #[.pointer (some ⟨sb, 0, none⟩), .int .u8 f, .agg #[.int .u8 r.hi.tag, .int .u32 r.hi.to], .int .i64 (r.bot + 1), .int .i64 x] W fun r w' => r = .returned (.bool R) ∧ Keeps W w') := Lib.hid (fun W hW => by have := HI.out W hW; rw [HSE.out] at this; exact this)
          clear hvk
          go_wp2_with (first | (go_at_call 94; refine (HVK.out _).mono ?_; rintro e3 w3 ⟨rfl, rfl⟩) | (go_at_call 95; refine (HIH.out _ (by (exact kp))).mono ?_; rintro e4 w4 ⟨rfl, hk4⟩) | fail)
          go_ret
          exact ⟨rfl, by (exact kp)⟩

end Go.Proofs.Ytoeoehbpahodnaa

namespace Go.Proofs.Ytoeoehbpahodnaa
set_option linter.unusedSimpArgs false
set_option linter.unusedVariables false
set_option maxHeartbeats 600000
open Go.RowKit

set_option maxRecDepth 100000 in
theorem rh_zero (sb : Nat) (f l x i : Int) (e : Edge) (w : World) (hz : e.to = 0)
    (ha : ∀ W, Keeps w W → Calls Try.prog 74 #[.pointer (some ⟨sb, 0, none⟩), .int .u32 e.to] W fun r w' => r = .returned (.int .i64 i) ∧ W = w') :
    Calls Try.prog 95 #[.pointer (some ⟨sb, 0, none⟩), .int .u8 f, .agg #[.int .u8 e.tag, .int .u32 e.to], .int .i64 l, .int .i64 x] w fun r w' => r = .returned (.bool false) ∧ Keeps w w' := by
  obtain ⟨tg, a⟩ := e
  dsimp only at hz ha ⊢
  subst hz
  have HA := Lib.hid ha
  clear ha
  go_enter Try.func95, Try.ntmps95
  go_wp2_with (first | (go_at_call 74; refine (HA.out _ (by (exact kp))).mono ?_; rintro e2 w2 ⟨rfl, rfl⟩) | fail)
  go_ret
  exact ⟨rfl, by (exact kp)⟩

set_option maxRecDepth 100000 in
theorem rh_end (sb : Nat) (f l n x : Int) (e : Edge) (w : World) (hsb : sb < w.heap.size) (hz : e.to ≠ 0) (ho : e.ok) (hl : n ≤ l) (c3 : w.cell? ⟨sb, 3, none⟩ = some (.int .i64 n))
    (ha : ∀ W, Keeps w W → Calls Try.prog 74 #[.pointer (some ⟨sb, 0, none⟩), .int .u32 e.to] W fun r w' => r = .returned (.int .i64 (-1)) ∧ W = w') :
    Calls Try.prog 95 #[.pointer (some ⟨sb, 0, none⟩), .int .u8 f, .agg #[.int .u8 e.tag, .int .u32 e.to], .int .i64 l, .int .i64 x] w fun r w' => r = .returned (.bool true) ∧ Keeps w w' := by
  have hsb1 : sb < w.heap.size + 1 := by omega
  have HA := Lib.hid ha
  have hp : 0 < e.to := by have := ho.2.1; omega
  clear ha
  go_enter Try.func95, Try.ntmps95
  go_wp2_with (first | (go_at_call 74; refine (HA.out _ (by (exact kp))).mono ?_; rintro e2 w2 ⟨rfl, rfl⟩) | fail)
  all_goals first | (exfalso; omega) | (go_ret; exact ⟨rfl, by (exact kp)⟩)

theorem rholds_calls {F : Nat → Prop} {w : World} {sb : Nat} {M : St} {L : List (Int × Rec)} (h : RefRep F w sb M L) (f x : Int) (hf : 1 ≤ f ∧ f ≤ 5) (hx0 : 0 ≤ x) (hx1 : x ≤ 65535) :
    ∀ (K : Nat) (l : Int) (e : Edge) (W : World), Keeps w W → e.ok → 0 ≤ l → l ≤ M.n → M.n - l ≤ (K : Int) → (∀ r, look M.cs e.to = some r → r.form = f ∧ l ≤ r.top) →
      Calls Try.prog 95 #[.pointer (some ⟨sb, 0, none⟩), .int .u8 f, .agg #[.int .u8 e.tag, .int .u32 e.to], .int .i64 l, .int .i64 x] W fun r w' => r = .returned (.bool (hS M f x K l e)) ∧ Keeps W w' := by
  have n16 := h.wf.n16
  have zero : ∀ (K : Nat) (l : Int) (e : Edge) (W : World), Keeps w W → e.to = 0 → Calls Try.prog 95 #[.pointer (some ⟨sb, 0, none⟩), .int .u8 f, .agg #[.int .u8 e.tag, .int .u32 e.to], .int .i64 l, .int .i64 x] W fun r w' => r = .returned (.bool (hS M f x K l e)) ∧ Keeps W w' := by
    intro K l e W hW hz
    have hh : hS M f x K l e = false := by
      cases K with
      | zero => exact decide_eq_false (fun hh => hh hz)
      | succ K => show (if e.to = 0 then false else _) = false; rw [if_pos hz]
    rw [hh]
    exact rh_zero sb f l x _ e W hz (fun W2 h2 => ref_at (h.keeps (hW.trans h2)) e.to)
  have stop : ∀ (K : Nat) (l : Int) (e : Edge) (W : World), Keeps w W → e.to ≠ 0 → e.ok → M.n ≤ l → (∀ r, look M.cs e.to = some r → r.form = f ∧ l ≤ r.top) → Calls Try.prog 95 #[.pointer (some ⟨sb, 0, none⟩), .int .u8 f, .agg #[.int .u8 e.tag, .int .u32 e.to], .int .i64 l, .int .i64 x] W fun r w' => r = .returned (.bool (hS M f x K l e)) ∧ Keeps W w' := by
    intro K l e W hW hz ho hl hr
    have hh : hS M f x K l e = true := by
      cases K with
      | zero => exact decide_eq_true hz
      | succ K => show (if e.to = 0 then false else if M.n ≤ l then true else _) = true; rw [if_neg hz, if_pos hl]
    rw [hh]
    have hW2 := h.keeps hW
    refine rh_end sb f l M.n x e W hW2.pos hz ho hl hW2.vars (fun W2 h2 => ?_)
    have hat := ref_at (hW2.keeps h2) e.to
    rcases atI_look h e.to with ⟨r, hx, _⟩ | ⟨_, _, hq⟩
    · have := (hr r hx).2
      have := (h.wf.goodRec hx).tb
      have := (h.wf.goodRec hx).bn
      omega
    · rw [hq] at hat
      exact hat
  intro K
  induction K with
  | zero =>
    intro l e W hW ho hl0 hl1 hK hr
    by_cases hz : e.to = 0
    · exact zero 0 l e W hW hz
    · exact stop 0 l e W hW hz ho (by omega) hr
  | succ K ih =>
    intro l e W hW ho hl0 hl1 hK hr
    by_cases hz : e.to = 0
    · exact zero (K + 1) l e W hW hz
    · by_cases hl : M.n ≤ l
      · exact stop (K + 1) l e W hW hz ho hl hr
      · have hW2 := h.keeps hW
        have hat := fun (W2 : World) (h2 : Keeps W W2) => ref_at (hW2.keeps h2) e.to
        have hv := fun (W2 : World) (k : Int) (k0 : 0 ≤ k) (k1 : k ≤ 16) => value_calls x k W2 hx0 hx1 k0 k1
        rcases atI_look hW2 e.to with ⟨r, hk, D, hLD, _, hDl, hq⟩ | ⟨hk, _, hq⟩
        · obtain ⟨lb, cap, q0, ql, qm, q1, q2, q3, q4, q5, q6, q7⟩ := hW2.node hLD
          obtain ⟨hfr, hlt⟩ := hr r hk
          have hok : r.ok := h.fit _ (List.mem_of_getElem? hLD)
          have gr := h.wf.goodRec hk
          rw [hq] at hat
          by_cases hlt2 : l < r.top
          · have hh : hS M f x (K + 1) l e = (if zeroAt f e l && bitB x l then false else hS M f x K (l + 1) e) := by
              show (if e.to = 0 then false else if M.n ≤ l then true else match look M.cs e.to with | none => _ | some r => _) = _
              rw [if_neg hz, if_neg hl, hk]
              show (if l < r.top then _ else _) = _
              rw [if_pos hlt2]
            rw [hh]
            exact rh_above sb f l M.n x e _ _ W hW2.pos hf hz ho hl0 (by omega) n16 hW2.vars r.top lb D L.length cap hok.top.1 hok.top.2 hlt2 q0 ql qm q2 hat (fun W2 => hv W2 l hl0 (by omega)) (fun W2 h2 => ih (l + 1) e W2 (hW.trans h2) ho (by omega) (by omega) (by push_cast at hK; omega) (fun r2 hr2 => by rw [hk] at hr2; cases hr2; exact ⟨hfr, by omega⟩))
          · have e1 : l = r.top := by omega
            have hh : hS M f x (K + 1) l e = hS M f x K (r.bot + 1) (sideE x r) := by
              show (if e.to = 0 then false else if M.n ≤ l then true else match look M.cs e.to with | none => _ | some r => _) = _
              rw [if_neg hz, if_neg hl, hk]
              show (if l < r.top then _ else _) = _
              rw [if_neg hlt2]
            rw [hh, e1]
            have tb := gr.tb
            have bn := gr.bn
            have hsl := side_leads (x := x) h.wf hk
            rw [hfr] at hsl
            exact rh_node sb f M.n x e r _ W hW2.pos hfr hz ho hok tb bn n16 hW2.vars lb D L.length cap q0 ql qm q1 q2 q3 q4 q5 q6 q7 hat hv (fun W2 h2 => ih (r.bot + 1) (sideE x r) W2 (hW.trans h2) (by unfold sideE; split; exact hok.hi; exact hok.lo) (by have := hok.bot.1; omega) (by omega) (by push_cast at hK; omega) (fun r2 hr2 => by obtain ⟨a, b, _⟩ := leads_some hsl hr2; exact ⟨a, b⟩))
        · rw [hq] at hat
          have hh : hS M f x (K + 1) l e = (if zeroAt f e l && bitB x l then false else hS M f x K (l + 1) e) := by
            show (if e.to = 0 then false else if M.n ≤ l then true else match look M.cs e.to with | none => _ | some r => _) = _
            rw [if_neg hz, if_neg hl, hk]
          rw [hh]
          exact rh_left sb f l M.n x e _ _ W hW2.pos hf hz ho hl0 (by omega) n16 hW2.vars hat (fun W2 => hv W2 l hl0 (by omega)) (fun W2 h2 => ih (l + 1) e W2 (hW.trans h2) ho (by omega) (by omega) (by push_cast at hK; omega) (fun r2 hr2 => by rw [hk] at hr2; cases hr2))

end Go.Proofs.Ytoeoehbpahodnaa
