/-
  Unfold of law15 over the state (printed by wip/mk_unfold.py).
-/
import Derived.Test.YtacanmmkhbdmlaaPUnfBase
namespace Go.Proofs.Ytacanmmkhbdmlaa
set_option linter.unusedSimpArgs false
set_option linter.unusedVariables false
set_option maxHeartbeats 600000
open Go.RowKit

theorem unfQ_deep (sb : Nat) (e : Edge) (w : World) : Calls Try.prog 29 #[.pointer (some ⟨sb, 0, none⟩), .agg #[.int .u8 e.tag, .int .u32 e.to], .int .i64 (-1)] w fun r w' => r = .returned (.string ⟨#[63]⟩) ∧ Keeps w w' := by
  go_enter Try.func29, Try.ntmps29
  go_wp2
  go_ret
  exact ⟨rfl, by (repeat (first | with_reducible exact Keeps.refl _ | with_reducible assumption | with_reducible refine Keeps.alloc ?_ _ | with_reducible refine Keeps.drewN ?_ _ | with_reducible refine Keeps.drew ?_ | refine Keeps.setCell ?_ (by dsimp only; omega) _ | with_reducible refine Keeps.trans ?_ (by assumption)))⟩

theorem unfQ_leaf (sb : Nat) (e : Edge) (d : Int) (w : World) (hd : 0 ≤ d) (he : e.ok) (ht : e.to < 2) : Calls Try.prog 29 #[.pointer (some ⟨sb, 0, none⟩), .agg #[.int .u8 e.tag, .int .u32 e.to], .int .i64 d] w fun r w' => r = .returned (.string (digS e.to)) ∧ Keeps w w' := by
  have h0 : 0 ≤ e.to := he.2.1
  have HN := Lib.hid (fun W => num_calls e.to W h0 (by omega))
  go_enter Try.func29, Try.ntmps29
  go_wp2_with (first | (go_at_call 66; refine (HN.out _).mono ?_; rintro e2 w1 ⟨rfl, hk⟩) | fail)
  go_ret
  exact ⟨rfl, by (repeat (first | with_reducible exact Keeps.refl _ | with_reducible assumption | with_reducible refine Keeps.alloc ?_ _ | with_reducible refine Keeps.drewN ?_ _ | with_reducible refine Keeps.drew ?_ | refine Keeps.setCell ?_ (by dsimp only; omega) _ | with_reducible refine Keeps.trans ?_ (by assumption)))⟩

set_option maxRecDepth 100000 in
theorem unfQ_node {F : Nat → Prop} {w : World} {sb : Nat} {M : St} (h : StoreRep F w sb M) (hn9 : M.n ≤ 9) (e : Edge) (d : Int) (n : Nat) (hd : 0 ≤ d) (hd2 : d ≤ 100) (hn20 : n ≤ 20) (he : e.ok) (ht : ¬ e.to < 2)
    (hu : ∀ (e' : Edge) (W : World), Keeps w W → e'.ok → Calls Try.prog 29 #[.pointer (some ⟨sb, 0, none⟩), .agg #[.int .u8 e'.tag, .int .u32 e'.to], .int .i64 (d - 1)] W fun r w' => r = .returned (.string (unfS 4 M n e')) ∧ Keeps W w') :
    Calls Try.prog 29 #[.pointer (some ⟨sb, 0, none⟩), .agg #[.int .u8 e.tag, .int .u32 e.to], .int .i64 d] w fun r w' => r = .returned (.string (unfS 4 M (n + 1) e)) ∧ Keeps w w' := by
  have hs : unfS 4 M (n + 1) e = (let r := grec (look M.cs e.to); ⟨#[40]⟩ ++ digS r.top ++ ⟨#[58]⟩ ++ digS r.bot ++ ⟨#[32]⟩ ++ unfS 4 M n r.lo ++ ⟨#[32]⟩ ++ unfS 4 M n r.hi ++ ⟨#[41]⟩) := by
    show (if (4 : Int) = 5 then _ else if e.to < 2 then _ else _) = _
    rw [if_neg (by decide), if_neg ht]
    rw [if_pos (by decide)]
  rw [hs]
  have hg := fun (W : World) (hW : Keeps w W) => store_get (h.keeps hW) e.to he.2.2
  have hsm := grec_small h.wf hn9 e.to
  have hok := h.grec e.to
  obtain ⟨r, hr⟩ : ∃ r, r = grec (look M.cs e.to) := ⟨_, rfl⟩
  obtain ⟨b, hb⟩ : ∃ b, b = gsome (look M.cs e.to) := ⟨_, rfl⟩
  simp only [← hr, ← hb] at hg hsm hok ⊢
  have t0 : 0 ≤ r.top := hok.top.1
  have t1 : r.top ≤ 255 := hok.top.2
  have b0 : 0 ≤ r.bot := hok.bot.1
  have b1 : r.bot ≤ 255 := hok.bot.2
  have HG := Lib.hid hg
  have HNT := Lib.hid (fun W => num_calls r.top W t0 hsm.1)
  have HNB := Lib.hid (fun W => num_calls r.bot W b0 hsm.2)
  have HLO := Lib.hid hok.lo
  have HHI := Lib.hid hok.hi
  have HUU := Lib.hid hu
  have HS := Lib.hid hs
  clear h hg hu hsm hok hr hb hs
  go_enter Try.func29, Try.ntmps29
  go_wp2_with (first | (go_at_call 54; refine (HG.out _ (by (repeat (first | with_reducible exact Keeps.refl _ | with_reducible assumption | with_reducible refine Keeps.alloc ?_ _ | with_reducible refine Keeps.drewN ?_ _ | with_reducible refine Keeps.drew ?_ | refine Keeps.setCell ?_ (by dsimp only; omega) _ | with_reducible refine Keeps.trans ?_ (by assumption))))).mono ?_; rintro e2 w2 ⟨rfl, hk2⟩; have hkw : Keeps w w2 := (by (repeat (first | with_reducible exact Keeps.refl _ | with_reducible assumption | with_reducible refine Keeps.alloc ?_ _ | with_reducible refine Keeps.drewN ?_ _ | with_reducible refine Keeps.drew ?_ | refine Keeps.setCell ?_ (by dsimp only; omega) _ | with_reducible refine Keeps.trans ?_ (by assumption))))) | fail)
  have k0 := KWorld.cell (W0 := w2.alloc (.cells #[.int .u8 r.form, .int .u8 r.top, .int .u8 r.bot, .int .u8 r.lo.tag, .int .u32 r.lo.to, .int .u8 r.hi.tag, .int .u32 r.hi.to] 50)) (a := ⟨w2.heap.size, 1, none⟩) (v := .int .u8 r.top) (by simp)
  have k1 := KWorld.cell (W0 := w2.alloc (.cells #[.int .u8 r.form, .int .u8 r.top, .int .u8 r.bot, .int .u8 r.lo.tag, .int .u32 r.lo.to, .int .u8 r.hi.tag, .int .u32 r.hi.to] 50)) (a := ⟨w2.heap.size, 2, none⟩) (v := .int .u8 r.bot) (by simp)
  have k2 := KWorld.cell (W0 := w2.alloc (.cells #[.int .u8 r.form, .int .u8 r.top, .int .u8 r.bot, .int .u8 r.lo.tag, .int .u32 r.lo.to, .int .u8 r.hi.tag, .int .u32 r.hi.to] 50)) (a := ⟨w2.heap.size, 3, none⟩) (v := .int .u8 r.lo.tag) (by simp)
  have k3 := KWorld.cell (W0 := w2.alloc (.cells #[.int .u8 r.form, .int .u8 r.top, .int .u8 r.bot, .int .u8 r.lo.tag, .int .u32 r.lo.to, .int .u8 r.hi.tag, .int .u32 r.hi.to] 50)) (a := ⟨w2.heap.size, 4, none⟩) (v := .int .u32 r.lo.to) (by simp)
  have k4 := KWorld.cell (W0 := w2.alloc (.cells #[.int .u8 r.form, .int .u8 r.top, .int .u8 r.bot, .int .u8 r.lo.tag, .int .u32 r.lo.to, .int .u8 r.hi.tag, .int .u32 r.hi.to] 50)) (a := ⟨w2.heap.size, 5, none⟩) (v := .int .u8 r.hi.tag) (by simp)
  have k5 := KWorld.cell (W0 := w2.alloc (.cells #[.int .u8 r.form, .int .u8 r.top, .int .u8 r.bot, .int .u8 r.lo.tag, .int .u32 r.lo.to, .int .u8 r.hi.tag, .int .u32 r.hi.to] 50)) (a := ⟨w2.heap.size, 6, none⟩) (v := .int .u32 r.hi.to) (by simp)
  have HU := Lib.hid (fun (e' : Edge) (W : World) (hW : Keeps (w2.alloc (.cells #[.int .u8 r.form, .int .u8 r.top, .int .u8 r.bot, .int .u8 r.lo.tag, .int .u32 r.lo.to, .int .u8 r.hi.tag, .int .u32 r.hi.to] 50)) W) => HUU.out e' W (hkw.trans (((Keeps.refl _).alloc _).trans hW)))
  have z1 := digS_size r.top
  have z2 := digS_size r.bot
  have z3 := unfS_few 4 M hn20 r.lo
  have z4 := unfS_few 4 M hn20 r.hi
  have ew : IntKind.i64.wrap (d - 1) = d - 1 := IntWalk.i64_in _ (by omega)
  refine wp_region_keeps (w2.alloc (.cells #[.int .u8 r.form, .int .u8 r.top, .int .u8 r.bot, .int .u8 r.lo.tag, .int .u32 r.lo.to, .int .u8 r.hi.tag, .int .u32 r.hi.to] 50)) (by kernel_rfl) (by kernel_rfl) (Keeps.refl _) ?_
  (repeat (go_big_quiet_step ((first | (go_at_call 66; with_reducible refine Calls.keepsK (HNT.out _)) | (go_at_call 66; with_reducible refine Calls.keepsK (HNB.out _)) | (go_at_call 29; with_reducible refine Calls.keepsK (HU.out _ _ (KWorld.keep _) (by first | exact HLO.out | exact HHI.out)))))))
  refine wpQuiet_nil ?_
  rintro wq ⟨⟨w4, hkq⟩, rfl⟩
  try dsimp only
  go_wp2_with fail
  go_ret
  exact ⟨rfl, hkw.trans (((Keeps.refl _).alloc _).trans hkq)⟩

theorem unfQ_calls {F : Nat → Prop} {w : World} {sb : Nat} {M : St} (h : StoreRep F w sb M) (hn9 : M.n ≤ 9) : ∀ (n : Nat), n ≤ 20 → ∀ (e : Edge) (W : World), Keeps w W → e.ok →
    Calls Try.prog 29 #[.pointer (some ⟨sb, 0, none⟩), .agg #[.int .u8 e.tag, .int .u32 e.to], .int .i64 ((n : Int) - 1)] W fun r w' => r = .returned (.string (unfS 4 M n e)) ∧ Keeps W w' := by
  intro n
  induction n with
  | zero => intro _ e W _ _; exact unfQ_deep sb e W
  | succ n ih =>
    intro hn e W hW he
    have e1 : ((n + 1 : Nat) : Int) - 1 = (n : Int) := by omega
    rw [e1]
    by_cases ht : e.to < 2
    · have hs : unfS 4 M (n + 1) e = digS e.to := by
        show (if (4 : Int) = 5 then _ else if e.to < 2 then _ else _) = _
        rw [if_neg (by decide), if_pos ht]
      rw [hs]
      exact unfQ_leaf sb e _ W (by omega) he ht
    · exact unfQ_node (h.keeps hW) hn9 e _ n (by omega) (by omega) (by omega) he ht (fun e' W2 h2 he' => ih (by omega) e' W2 (hW.trans h2) he')

end Go.Proofs.Ytacanmmkhbdmlaa
