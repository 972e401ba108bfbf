/-
  convert.Same over the state.
-/
import Derived.Test.YtiacdpoldgfpbaaPConvU
import Derived.Test.YtiacdpoldgfpbaaPTableW
namespace Go.Proofs.Ytiacdpoldgfpbaa
set_option linter.unusedSimpArgs false
set_option linter.unusedVariables false
set_option maxHeartbeats 600000
open Go.RowKit

theorem rv_onto : ∀ (k m t : Nat), t < 2 ^ k → ∃ y, y < 2 ^ k ∧ rv y k m = ((2 ^ m * t : Nat) : Int) := by
  intro k
  induction k with
  | zero =>
    intro m t ht
    have : t = 0 := by simpa using ht
    subst this
    exact ⟨0, by decide, by rw [Nat.mul_zero]; rfl⟩
  | succ k ih =>
    intro m t ht
    have e2 : 2 ^ (k + 1) = 2 ^ k * 2 := Nat.pow_succ ..
    obtain ⟨y, hy, hr⟩ := ih (m + 1) (t / 2) (by omega)
    have hp : 0 < 2 ^ k := Nat.pow_pos (by decide)
    refine ⟨(t % 2) * 2 ^ k + y, ?_, ?_⟩
    · have : t % 2 = 0 ∨ t % 2 = 1 := by omega
      rcases this with h | h <;> rw [h] <;> omega
    · have h1 : ((t % 2) * 2 ^ k + y) / 2 ^ k = t % 2 := by
        rw [Nat.add_comm, Nat.add_mul_div_right _ _ hp, Nat.div_eq_of_lt hy, Nat.zero_add]
      have h2 : ((t % 2) * 2 ^ k + y) % 2 ^ k = y := by
        rw [Nat.add_comm, Nat.add_mul_mod_self_right, Nat.mod_eq_of_lt hy]
      rw [rv_next, h1, h2, hr]
      have h3 : 2 ^ m * t = 2 ^ m * (t % 2) + 2 ^ (m + 1) * (t / 2) := by
        rw [Nat.pow_succ, Nat.mul_assoc, ← Nat.mul_add]
        congr 1
        omega
      rw [h3]
      have : t % 2 = 0 ∨ t % 2 = 1 := by omega
      rcases this with h | h
      · rw [h, decide_eq_false (by omega), Nat.mul_zero, Nat.zero_add]
        show 0 * _ + _ = _
        rw [Int.zero_mul, Int.zero_add]
      · rw [h, decide_eq_true (by omega), Nat.mul_one, Int.natCast_add]
        show 1 * _ + _ = _
        rw [Int.one_mul]

theorem rv_range : ∀ (k m y : Nat), 0 ≤ rv y k m ∧ rv y k m + ((2 ^ m : Nat) : Int) ≤ ((2 ^ (m + k) : Nat) : Int) := by
  intro k
  induction k with
  | zero =>
    intro m y
    refine ⟨Int.le_refl _, ?_⟩
    rw [Nat.add_zero]
    show 0 + _ ≤ _
    omega
  | succ k ih =>
    intro m y
    obtain ⟨a, b⟩ := ih (m + 1) (y % 2 ^ k)
    have e1 : m + 1 + k = m + (k + 1) := by omega
    have e2 : 2 ^ (m + 1) = 2 ^ m * 2 := Nat.pow_succ ..
    rw [e1, e2] at b
    rw [rv_next]
    have hp : (0 : Int) < ((2 ^ m : Nat) : Int) := by have : 0 < 2 ^ m := Nat.pow_pos (by decide); omega
    push_cast at b hp ⊢
    cases decide (y / 2 ^ k % 2 = 1)
    · show 0 ≤ 0 * _ + _ ∧ 0 * _ + _ + _ ≤ _
      constructor
      · omega
      · omega
    · show 0 ≤ 1 * _ + _ ∧ 1 * _ + _ + _ ≤ _
      constructor
      · omega
      · omega

theorem tab_same {M : St} {f g : Int} {a b : Edge} (h0 : 0 ≤ M.n) : tabE M f a 0 = tabE M g b 0 ↔ ∀ x : Nat, x < 2 ^ M.n.toNat → tv M f (x : Int) 0 a = tv M g (x : Int) 0 b := by
  have e : (M.n - 0).toNat = M.n.toNat := by omega
  have h1 : ∀ (f2 : Int) (c : Edge) (y : Nat), y < 2 ^ M.n.toNat → (tabE M f2 c 0)[y]? = some (tv M f2 (rv y M.n.toNat 0) 0 c) := fun f2 c y hy => by
    unfold tabE
    rw [e, tabX_at _ _ _ _ hy, Int.zero_add]
    rfl
  constructor
  · intro h x hx
    obtain ⟨y, hy, hr⟩ := rv_onto M.n.toNat 0 x hx
    rw [Nat.pow_zero, Nat.one_mul] at hr
    have k1 := h1 f a y hy
    have k2 := h1 g b y hy
    rw [h, k2, hr] at k1
    exact (Option.some.inj k1).symm
  · intro h
    apply List.ext_getElem?
    intro y
    by_cases hy : y < 2 ^ M.n.toNat
    · rw [h1 f a y hy, h1 g b y hy]
      obtain ⟨r0, r1⟩ := rv_range M.n.toNat 0 y
      rw [Nat.zero_add] at r1
      have := h (rv y M.n.toNat 0).toNat (by have e0 : ((2 ^ 0 : Nat) : Int) = 1 := rfl; rw [e0] at r1; omega)
      rw [Int.toNat_of_nonneg r0] at this
      rw [this]
    · rw [List.getElem?_eq_none (by rw [tabE_len, e]; omega), List.getElem?_eq_none (by rw [tabE_len, e]; omega)]

def csC (M : St) (f g : Int) (a b : Edge) : Int := if convC M f g a = 0 then (if M.leads g b 0 = false then 1 else 0) else convC M f g a

set_option maxRecDepth 100000 in
set_option maxHeartbeats 1000000 in
theorem convsame_calls {F : Nat → Prop} {w : World} {sb : Nat} {M : St} (h : StoreRep F w sb M) (f g : Int) (a b : Edge) (ha : a.ok) (hb : b.ok) :
    Calls Try.prog 14 #[.pointer (some ⟨sb, 0, none⟩), .int .u8 f, .agg #[.int .u8 a.tag, .int .u32 a.to], .int .u8 g, .agg #[.int .u8 b.tag, .int .u32 b.to]] w fun r w' =>
      r = .returned (.tuple #[.bool (decide (csC M f g a b = 0) && decide (tabE M f a 0 = tabE M g b 0)), .int .u8 (csC M f g a b)]) ∧ Keeps w w' := by
  have hmay := fun (W : World) (hW : Keeps w W) => convmay_calls (h.keeps hW) f g a ha
  have hr := convC_range M f g a
  by_cases c0 : convC M f g a = 0
  · obtain ⟨hf, hg, hl⟩ := convC_zero c0
    rw [c0] at hmay
    have hld := fun (W : World) (hW : Keeps w W) => store_leads (h.keeps hW) g b 0 hb
    by_cases hl2 : M.leads g b 0 = false
    · have e : csC M f g a b = 1 := by unfold csC; rw [if_pos c0, if_pos hl2]
      rw [e]
      rw [hl2] at hld
      have HM := Lib.hid hmay
      have HLD := Lib.hid hld
      clear h hmay hld hr c0 hf hg hl hl2 e
      go_enter Try.func14, Try.ntmps14
      go_wp2_with (first
        | (go_at_call 47; refine (HM.out _ (by (exact kp))).mono ?_; rintro e w1 ⟨rfl, hk⟩; have z0 := hk.cell (a := ⟨w.heap.size + 1, 0, none⟩) (v := .int .u8 b.tag) (by simp [go_sem]); have z1 := hk.cell (a := ⟨w.heap.size + 1, 1, none⟩) (v := .int .u32 b.to) (by simp [go_sem]); have hk1 : Keeps w w1 := (by (exact kp)))
        | (go_at_call 49; refine (HLD.out _ hk1).mono ?_; rintro e w2 ⟨rfl, hk2⟩)
        | fail)
      go_ret2
      exact ⟨rfl, by (exact kp)⟩
    · have hl3 : M.leads g b 0 = true := by cases hb : M.leads g b 0 with | true => rfl | false => exact absurd hb hl2
      have e : csC M f g a b = 0 := by unfold csC; rw [if_pos c0, if_neg hl2]
      rw [e]
      rw [hl3] at hld
      have hm1 : mayC M f a 0 = 0 := by have := convC_may h.wf f g a; rw [c0] at this; split at this; cases this; exact this.symm
      have hm2 : mayC M g b 0 = 0 := by
        unfold mayC
        have hgb : isFormB g = true := by unfold isFormB; simp [hg.1, hg.2]
        have := h.wf.n0
        rw [if_neg (by rw [hgb]; simp), if_neg (show ¬ ((0 : Int) < 0 ∨ M.n < 0) by omega), if_neg (by rw [hl3]; simp)]
      have hh1 := fun (x : Int) (x0 : 0 ≤ x) (x1 : x ≤ 65535) (W : World) (hW : Keeps w W) => holds_calls (h.keeps hW) f a 0 x ha x0 x1
      have hh2 := fun (x : Int) (x0 : 0 ≤ x) (x1 : x ≤ 65535) (W : World) (hW : Keeps w W) => holds_calls (h.keeps hW) g b 0 x hb x0 x1
      rw [hm1] at hh1
      rw [hm2] at hh2
      simp only [decide_true, Bool.true_and] at hh1 hh2
      have hvs := fun (W : World) (hW : Keeps w W) => store_vars (h.keeps hW)
      obtain ⟨N, hN⟩ : ∃ N : Nat, M.n = (N : Int) := ⟨M.n.toNat, by have := h.wf.n0; omega⟩
      have hN16 : N ≤ 16 := by have := h.wf.n16; omega
      have hts := tab_same (M := M) (f := f) (g := g) (a := a) (b := b) h.wf.n0
      rw [hN] at hts hvs
      rw [Int.toNat_natCast] at hts
      have h16 : 2 ^ N ≤ 2 ^ 16 := Nat.pow_le_pow_right (by decide) hN16
      have e16 : (2 : Nat) ^ 16 = 65536 := rfl
      rw [e16] at h16
      have HM := Lib.hid hmay
      have HLD := Lib.hid hld
      have HH1 := Lib.hid hh1
      have HH2 := Lib.hid hh2
      have HVS := Lib.hid hvs
      have HNN := Lib.hid hN
      obtain ⟨T, hT⟩ : ∃ T, T = decide (tabE M f a 0 = tabE M g b 0) := ⟨_, rfl⟩
      rw [← hT, show (decide ((0 : Int) = 0) && T) = T by simp]
      have HT := Lib.hid hT
      obtain ⟨p, hp⟩ : ∃ p, p = 2 ^ N := ⟨_, rfl⟩
      have hsh : wrap64 ((2 : Int) ^ N) = (p : Int) := by
        have e0 : ((2 : Int) ^ N) = ((2 ^ N : Nat) : Int) := by push_cast; rfl
        rw [e0, ← hp]
        rw [← hp] at h16
        exact IntWalk.wrap64_in _ ⟨by omega, by omega⟩
      rw [← hp] at h16 hts
      have HTS := Lib.hid hts
      clear h hmay hld hr c0 hf hg hl hl2 hl3 e hm1 hm2 hh1 hh2 hvs hts hN hT e16 hp
      go_enter Try.func14, Try.ntmps14
      go_wp2_with (first
        | (go_at_call 47; refine (HM.out _ (by (exact kp))).mono ?_; rintro e w1 ⟨rfl, hk⟩; have y0 := hk.cell (a := ⟨w.heap.size, 0, none⟩) (v := .int .u8 a.tag) (by simp [go_sem]); have y1 := hk.cell (a := ⟨w.heap.size, 1, none⟩) (v := .int .u32 a.to) (by simp [go_sem]); have z0 := hk.cell (a := ⟨w.heap.size + 1, 0, none⟩) (v := .int .u8 b.tag) (by simp [go_sem]); have z1 := hk.cell (a := ⟨w.heap.size + 1, 1, none⟩) (v := .int .u32 b.to) (by simp [go_sem]); have hk1 : Keeps w w1 := (by (exact kp)))
        | (go_at_call 49; refine (HLD.out _ hk1).mono ?_; rintro e w2 ⟨rfl, hk2⟩)
        | (go_at_call 50; refine (HVS.out _ (hk1.trans hk2)).mono ?_; rintro e w3 ⟨rfl, rfl⟩)
        | fail)
      replace y0 := hk2.cell y0
      replace y1 := hk2.cell y1
      replace z0 := hk2.cell z0
      replace z1 := hk2.cell z1
      have hk12 := hk1.trans hk2
      clear hk hk1 hk2
      rw [hsh]
      clear hsh
      go_loopg [33] p (fun gk s33 wr => ∃ x : Nat, x + gk = p ∧ s33 = .int .i64 (x : Int) ∧ Hid (∀ y : Nat, y < x → tv M f (y : Int) 0 a = tv M g (y : Int) 0 b) ∧ Keeps w2 wr)
      case atStart => exact ⟨0, by omega, rfl, Lib.hid (fun y hy => by omega), Keeps.refl _⟩
      case round =>
        obtain ⟨x, hx, rfl, HALL, hkr⟩ := hrel
        replace y0 := hkr.cell y0
        replace y1 := hkr.cell y1
        replace z0 := hkr.cell z0
        replace z1 := hkr.cell z1
        by_cases hlt : x < p
        · have h1 := fun (W : World) (hW : Keeps wr W) => HH1.out (x : Int) (by omega) (by omega) W ((hk12.trans hkr).trans hW)
          have h2 := fun (W : World) (hW : Keeps wr W) => HH2.out (x : Int) (by omega) (by omega) W ((hk12.trans hkr).trans hW)
          obtain ⟨b1, hb1⟩ : ∃ b1, b1 = tv M f (x : Int) 0 a := ⟨_, rfl⟩
          obtain ⟨b2, hb2⟩ : ∃ b2, b2 = tv M g (x : Int) 0 b := ⟨_, rfl⟩
          change ∀ W, Keeps wr W → Calls _ _ _ W fun r w' => r = .returned (.tuple #[.bool (tv M f (x : Int) 0 a), .int .u8 0]) ∧ Keeps W w' at h1
          change ∀ W, Keeps wr W → Calls _ _ _ W fun r w' => r = .returned (.tuple #[.bool (tv M g (x : Int) 0 b), .int .u8 0]) ∧ Keeps W w' at h2
          rw [← hb1] at h1
          rw [← hb2] at h2
          have H1 := Lib.hid h1
          have H2 := Lib.hid h2
          have x16 : (x : Int) ≤ 65535 := by omega
          by_cases hbb : b1 = b2
          · have hall : ∀ y : Nat, y < x + 1 → tv M f (y : Int) 0 a = tv M g (y : Int) 0 b := fun y hy => by
              by_cases e : y = x
              · subst e
                rw [← hb1, ← hb2, hbb]
              · exact HALL.out y (by omega)
            have HALL2 := Lib.hid hall
            subst hbb
            clear h1 h2 hb1 hb2 hall
            have hbne : (b1 != b1) = false := by cases b1 <;> rfl
            go_wp2_with fail
            refine (H1.out _ (by (exact kp))).mono ?_
            rintro e w4 ⟨rfl, hk4⟩
            replace z0 := hk4.cell z0
            replace z1 := hk4.cell z1
            go_wp2_with fail
            refine (H2.out _ (by (exact kp))).mono ?_
            rintro e w5 ⟨rfl, hk5⟩
            go_wp2_with fail
            go_roundg (gk - 1)
            case rel => exact ⟨x + 1, by omega, by simp, HALL2, hkr.trans (hk4.trans hk5)⟩
            case measure => omega
          · have hTf : T = false := by
              rw [HT.out]
              refine decide_eq_false (fun hh => hbb ?_)
              rw [hb1, hb2]
              exact HTS.out.1 hh x hlt
            subst hTf
            have hb12 : (b1 = true ∧ b2 = false) ∨ (b1 = false ∧ b2 = true) := by cases b1 <;> cases b2 <;> simp_all
            clear h1 h2 hb1 hb2 hbb
            rcases hb12 with ⟨rfl, rfl⟩ | ⟨rfl, rfl⟩
            all_goals
              go_wp2_with fail
              refine (H1.out _ (by (exact kp))).mono ?_
              rintro e w4 ⟨rfl, hk4⟩
              replace z0 := hk4.cell z0
              replace z1 := hk4.cell z1
              go_wp2_with fail
              refine (H2.out _ (by (exact kp))).mono ?_
              rintro e w5 ⟨rfl, hk5⟩
              go_wp2_with fail
              go_ret2
              exact ⟨rfl, ((hk12.trans hkr).trans hk4).trans hk5⟩
        · have hTt : T = true := by
            rw [HT.out]
            exact decide_eq_true (HTS.out.2 (fun y hy => HALL.out y (by omega)))
          subst hTt
          have hge : ¬ (x : Int) < (p : Int) := by omega
          go_wp2_with fail
          go_ret2
          exact ⟨rfl, hk12.trans hkr⟩
  · have e : csC M f g a b = convC M f g a := by unfold csC; rw [if_neg c0]
    rw [e]
    obtain ⟨c, hc⟩ : ∃ c, c = convC M f g a := ⟨_, rfl⟩
    rw [← hc] at hmay hr c0 ⊢
    rw [decide_eq_false c0, Bool.false_and]
    have HM := Lib.hid hmay
    have g0 : (c != 0) = true := by simp [c0]
    clear h hmay hc e
    go_enter Try.func14, Try.ntmps14
    go_wp2_with (first | (go_at_call 47; refine (HM.out _ (by (exact kp))).mono ?_; rintro e w1 ⟨rfl, hk⟩) | fail)
    go_ret2
    exact ⟨rfl, by (exact kp)⟩

end Go.Proofs.Ytiacdpoldgfpbaa
