/-
  View of form 5 over the state: the program's and the document's (printed by wip/mk_vstore.py).
-/
import Derived.Test.YtnkehgohamjpaaaPRViewT
import Derived.Test.YtnkehgohamjpaaaPVBase
import Derived.Test.YtnkehgohamjpaaaPViewT
namespace Go.Proofs.Ytnkehgohamjpaaa
set_option linter.unusedSimpArgs false
set_option linter.unusedVariables false
set_option maxHeartbeats 600000
open Go.RowKit

theorem tbdd_view {F : Nat → Prop} {w : World} {sb : Nat} {M : St} (h : StoreRep F w sb M) (e : Edge) (l : Int) (he : e.ok) :
    Calls Try.prog 21 #[.pointer (some ⟨sb, 0, none⟩), .agg #[.int .u8 e.tag, .int .u32 e.to], .int .i64 l] w fun r w' =>
      r = .returned (.tuple #[.agg #[.int .u8 (vLo M (viewAct M 5 e l)).tag, .int .u32 (vLo M (viewAct M 5 e l)).to], .agg #[.int .u8 (vHi M 5 (viewAct M 5 e l)).tag, .int .u32 (vHi M 5 (viewAct M 5 e l)).to], .int .u8 (vErr M (viewAct M 5 e l))]) ∧ Upd F w w' ∧ StoreRep (Grow F w w') w' sb (vSt M (viewAct M 5 e l)) := by
  have hn := h.wf.n16
  have hv := fun (W : World) (hW : Keeps w W) => store_vars (h.keeps hW)
  have hg := fun (W : World) (hW : Keeps w W) => store_get (h.keeps hW) e.to he.2.2
  have hl := fun (W : World) (hW : Keeps w W) => store_leads (h.keeps hW) 5 e l he
  by_cases c1 : l < 0 ∨ M.n ≤ l
  · have ev : viewAct M 5 e l = .inl (⟨0, 0⟩, ⟨0, 0⟩, 3) := if_pos c1
    rw [ev]
    by_cases c0 : l < 0
    · exact (tview_neg sb l M.n e w hn h.pos hv c0).mono fun r w' hr => ⟨hr.1, h.stay hr.2⟩
    · exact (tview_big sb l M.n e w hn h.pos hv (by omega) (by omega)).mono fun r w' hr => ⟨hr.1, h.stay hr.2⟩
  · have h0 : 0 ≤ l := by omega
    have h1 : l < M.n := by omega
    rcases bool_cases (M.leads 5 e l) with b | b
    · have ev : viewAct M 5 e l = .inl (⟨0, 0⟩, ⟨0, 0⟩, 1) := by unfold viewAct; rw [if_neg c1, if_pos b]
      rw [ev]
      rw [b] at hl
      exact (tview_no sb l M.n e w hn h.pos hv h0 h1 hl).mono fun r w' hr => ⟨hr.1, h.stay hr.2⟩
    · have nb : ¬ M.leads 5 e l = false := by rw [b]; simp
      rw [b] at hl
      by_cases z0 : e.to = 0
      · have ev : viewAct M 5 e l = .inl (e, e, 0) := by unfold viewAct; rw [if_neg c1, if_neg nb, if_pos ⟨rfl, .inl z0⟩]
        rw [ev]
        obtain ⟨et, ea⟩ := e
        dsimp only at z0
        subst z0
        exact (tview_zero sb l M.n et w hn h.pos hv h0 h1 hl).mono fun r w' hr => ⟨hr.1, h.stay hr.2⟩
      by_cases z1 : l < e.tag
      · have ev : viewAct M 5 e l = .inl (e, e, 0) := by unfold viewAct; rw [if_neg c1, if_neg nb, if_pos ⟨rfl, .inr z1⟩]
        rw [ev]
        exact (tview_tag sb l M.n e w hn h.pos hv h0 h1 hl he.1.1 he.1.2 z0 z1).mono fun r w' hr => ⟨hr.1, h.stay hr.2⟩
      have nt : ¬ ((5 : Int) = 5 ∧ (e.to = 0 ∨ l < e.tag)) := by omega
      have z2 : e.tag ≤ l := by omega
      have evo : vOut 5 l e = (⟨l + 1, e.to⟩, ⟨0, 0⟩, 0) := by simp [vOut]
      cases hk : look M.cs e.to with
      | none =>
        have ev : viewAct M 5 e l = .inl (⟨l + 1, e.to⟩, ⟨0, 0⟩, 0) := by unfold viewAct; rw [if_neg c1, if_neg nb, if_neg nt, hk]; show Sum.inl (vOut 5 l e) = _; rw [evo]
        rw [ev]
        rw [hk] at hg
        exact (tview_none sb l M.n e Rec.zero w hn h.pos hv h0 h1 hl he.1.1 he.1.2 z0 z2 hg).mono fun r w' hr => ⟨hr.1, h.stay hr.2⟩
      | some r =>
        obtain ⟨k1, k2, k3⟩ := leads_some b hk
        have hok := h.fit hk
        rw [hk] at hg
        by_cases c2 : l < r.top
        · have ev : viewAct M 5 e l = .inl (⟨l + 1, e.to⟩, ⟨0, 0⟩, 0) := by unfold viewAct; rw [if_neg c1, if_neg nb, if_neg nt, hk]; show (if l < r.top then Sum.inl (vOut 5 l e) else _) = _; rw [if_pos c2, evo]
          rw [ev]
          exact (tview_up sb l M.n e r w hn h.pos hv h0 h1 hl he.1.1 he.1.2 z0 z2 c2 hok.top.1 hok.top.2 hok.bot.1 hok.bot.2 hg).mono fun r w' hr => ⟨hr.1, h.stay hr.2⟩
        · have k4 : r.top = l := by omega
          have ev : viewAct M 5 e l = .inl (r.lo, r.hi, 0) := by unfold viewAct; rw [if_neg c1, if_neg nb, if_neg nt, hk]; show (if l < r.top then Sum.inl (vOut 5 l e) else _) = _; rw [if_neg c2, if_neg (by omega)]
          rw [ev]
          obtain ⟨rf, rt, rb, rlo, rhi⟩ := r
          dsimp only at k4
          subst k4
          exact (tview_at sb rt M.n e ⟨rf, rt, rb, rlo, rhi⟩ w hn h.pos hv h0 h1 hl he.1.1 he.1.2 z0 z2 hok.top.1 hok.top.2 hok.bot.1 hok.bot.2 hg).mono fun r w' hr => ⟨hr.1, h.stay hr.2⟩

end Go.Proofs.Ytnkehgohamjpaaa
