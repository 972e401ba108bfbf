/-
  Plainly: a right edge is its table's own diagram, where its halves are there; so right edges of one table are one.
-/
import Derived.Test.YtiacdpoldgfpbaaPSwapQ
namespace Go.Proofs.Ytiacdpoldgfpbaa
set_option linter.unusedSimpArgs false
set_option linter.unusedVariables false
set_option maxHeartbeats 600000

def Fit0 (M : St) : Prop := ∀ id r, look M.cs id = some r → 0 ≤ r.lo.to ∧ 0 ≤ r.hi.to

theorem find_fit0 {M : St} (hw : M.wf) (h : Fit0 M) {q : Rec} (hq : 0 ≤ q.lo.to ∧ 0 ≤ q.hi.to) : Fit0 (M.findSt q) := by
  unfold St.findSt
  cases M.idOf q with
  | some id => exact h
  | none =>
    simp only []
    split
    · exact h
    · split
      · exact h
      · intro id r hr
        rcases (look_put hw.gone id r).1 hr with ⟨_, rfl⟩ | hr
        · exact hq
        · exact h id r hr

theorem view_fit0 {M : St} (hw : M.wf) (h : Fit0 M) {f : Int} {e : Edge} {l : Int} (hl : M.leads f e l = true) (h0 : 0 ≤ l) (h1 : l < M.n) (he : 0 ≤ e.to) (hv : vErr M (viewAct M f e l) = 0) :
    0 ≤ (vLo M (viewAct M f e l)).to ∧ 0 ≤ (vHi M f (viewAct M f e l)).to ∧ Fit0 (vSt M (viewAct M f e l)) := by
  have hout : ∀ a, a = (.inl (vOut f l e) : (Edge × Edge × Int) ⊕ Rec) → 0 ≤ (vLo M a).to ∧ 0 ≤ (vHi M f a).to ∧ Fit0 (vSt M a) := fun a ha => by
    subst ha
    refine ⟨?_, ?_, h⟩
    · show 0 ≤ (vOut f l e).1.to
      unfold vOut
      split
      · exact he
      · split <;> exact he
    · show 0 ≤ (vOut f l e).2.1.to
      unfold vOut
      split
      · exact he
      · split <;> exact Int.le_refl _
  obtain ⟨va, hva⟩ : ∃ va, va = viewAct M f e l := ⟨_, rfl⟩
  rw [← hva] at hv ⊢
  have hva2 := hva
  unfold viewAct at hva2
  rw [if_neg (by omega), if_neg (by rw [hl]; simp)] at hva2
  split at hva2
  · rw [hva2]
    exact ⟨he, he, h⟩
  · cases hk : look M.cs e.to with
    | none =>
      rw [hk] at hva2
      exact hout va hva2
    | some r =>
      rw [hk] at hva2
      simp only [] at hva2
      obtain ⟨r1, r2⟩ := h _ _ hk
      by_cases hlt : l < r.top
      · rw [if_pos hlt] at hva2
        exact hout va hva2
      · rw [if_neg hlt] at hva2
        split at hva2
        · rw [hva2] at hv ⊢
          change M.findErr ⟨r.form, r.top + 1, r.bot, r.lo, r.hi⟩ = 0 at hv
          have hid : 0 ≤ (foundE M 0 ⟨r.form, r.top + 1, r.bot, r.lo, r.hi⟩).to := by
            rw [foundE_ok hv]
            show 0 ≤ M.findId _
            unfold St.findErr at hv
            unfold St.findId
            cases hi : M.idOf ⟨r.form, r.top + 1, r.bot, r.lo, r.hi⟩ with
            | some id => have := (look_some (idOf_look hi)).1; simp only []; omega
            | none =>
              rename_i hcc
              have g := hw.goodRec hk
              have hrf : r.form = f := (leads_some hl hk).1
              have hb : M.bad ⟨r.form, r.top + 1, r.bot, r.lo, r.hi⟩ = false := rest_good g hw.n16 (by have := (leads_some hl hk).2.1; omega) (by rw [hrf]; exact hcc.1) hcc.2
              have := (find_zero hw hb (by unfold St.findErr; rw [hi] at hv ⊢; exact hv)).2.2.2.1
              unfold St.findId at this
              rw [hi] at this
              omega
          refine ⟨hid, ?_, find_fit0 hw h ⟨r1, r2⟩⟩
          show 0 ≤ (if M.findErr _ = 0 then (if f = 4 then foundE M 0 _ else r.hi) else ⟨0, 0⟩ : Edge).to
          rw [if_pos hv]
          split
          · exact hid
          · exact r2
        · rw [hva2]
          exact ⟨r1, r2, h⟩

theorem right_table {f : Int} (hf : 1 ≤ f ∧ f ≤ 5) : ∀ (k : Nat) (l : Int) (M : St) (e : Edge), M.wf → M.room = 1048576 → M.len + ((2 ^ k : Nat) : Int) ≤ 1048576 → 0 ≤ e.to → Fit0 M → M.leads f e l = true → rightK M f e l → 0 ≤ l → l + (k : Int) = M.n →
    ∃ M', Ext M M' ∧ M'.wf ∧ M'.room = 1048576 ∧ M'.len + 1 ≤ M.len + ((2 ^ k : Nat) : Int) ∧ Fit0 M' ∧ IsT f M' k (tabE M f e l) l e := by
  intro k
  induction k with
  | zero =>
    intro l M e hw hr hlen he hfit hl hrt h0 hn
    have hn' : l = M.n := by simpa using hn
    have e0 : (M.n - l).toNat = 0 := by omega
    refine ⟨M, Ext.refl M, hw, hr, by show M.len + 1 ≤ M.len + ((1 : Nat) : Int); omega, hfit, ?_⟩
    by_cases hz : e.to = 0
    · have := (good_zero hw hf hf hl h0 hz).own hrt
      rw [e0] at this
      exact this
    · have hok : e.ok := by
        obtain ⟨hp, hr2⟩ := leads_iff.1 hl
        obtain ⟨p1, p2, p3, p4, p5, p6, p7, p8⟩ := plainB_iff.1 hp
        have ht : e.to < 2 := by
          rcases hr2 with q | ⟨r, a, b, c, d⟩
          · exact q
          · have g := hw.goodRec a
            have := g.tb
            have := g.bn
            omega
        refine ⟨?_, ⟨he, by omega⟩⟩
        by_cases h5 : f = 5
        · have := p8 h5 hz
          omega
        · have := p7 (.inl h5)
          omega
      have := (good_end hw hf hf hok hl hn' hz).own hrt
      rw [e0] at this
      exact this
  | succ k ih =>
    intro l M e hw hr hlen he hfit hl hrt h0 hn
    push_cast at hn
    have e2 : 2 ^ (k + 1) = 2 ^ k + 2 ^ k := by rw [Nat.pow_succ]; omega
    have hp : 0 < 2 ^ k := Nat.pow_pos (by decide)
    have h1 : l < M.n := by omega
    have hv0 : vErr M (viewAct M f e l) = 0 := by
      by_cases hv : vErr M (viewAct M f e l) = 0
      · exact hv
      · have := (viewed_full hw hl h1 hv).2.2
        omega
    have hv := viewed hw hl h1 hv0
    obtain ⟨hp1, hp2, hp3⟩ := view_pair hw hl h0 h1 hv0 hrt rfl rfl rfl
    obtain ⟨olo, ohi, hstep⟩ := view_fit0 hw hfit hl h0 h1 he hv0
    obtain ⟨M1, hM1⟩ : ∃ N, N = vSt M (viewAct M f e l) := ⟨_, rfl⟩
    obtain ⟨lo, hlo⟩ : ∃ N, N = vLo M (viewAct M f e l) := ⟨_, rfl⟩
    obtain ⟨hi, hhi⟩ : ∃ N, N = vHi M f (viewAct M f e l) := ⟨_, rfl⟩
    rw [← hM1, ← hlo, ← hhi] at hv hp1
    rw [← hM1, ← hlo] at hp2
    rw [← hM1, ← hhi] at hp3
    rw [← hlo] at olo
    rw [← hhi] at ohi
    rw [← hM1] at hstep
    have n1 := hv.ext.n
    obtain ⟨M2, x1, x2, x3, x4, x5, x7⟩ := ih (l + 1) M1 lo hv.wf (by rw [hv.room]; exact hr) (by have := hv.len; omega) olo hstep hv.llo hp2 (by omega) (by omega)
    have n2 := x1.n
    obtain ⟨M3, y1, y2, y3, y4, y5, y7⟩ := ih (l + 1) M2 hi x2 x3 (by have := hv.len; omega) ohi x5 (x1.leads hv.lhi) (rightK_ext x1 hv.wf hp3) (by omega) (by omega)
    refine ⟨M3, (hv.ext.trans x1).trans y1, y2, y3, by have := hv.len; omega, y5, ?_⟩
    rw [tabE_ext hv.wf x1 (Weak.of hv.lhi)] at y7
    have hk1 : (M1.n - (l + 1)).toNat = k := by omega
    have tl : (tabE M1 f lo (l + 1)).length = 2 ^ k := by rw [tabE_len, hk1]
    have tl2 : (tabE M1 f hi (l + 1)).length = 2 ^ k := by rw [tabE_len, hk1]
    rw [tab_split hv h0 h1]
    refine ⟨by rw [List.length_append, tl, tl2, e2], lo, hi, ?_, ?_, (hp1.ext x1 hf).ext y1 hf⟩
    · rw [List.take_left' tl]
      exact IsT.ext y1 hf _ _ _ _ x7
    · rw [List.drop_left' tl]
      exact y7

theorem Fit0.vast {M : St} (h : Fit0 M) : Fit0 M.vast := h

theorem right_isT {f : Int} (hf : 1 ≤ f ∧ f ≤ 5) {M : St} {e : Edge} {k : Nat} {l : Int} (hw : M.wf) (hlen : M.len + ((2 ^ k : Nat) : Int) ≤ 1048576) (he : 0 ≤ e.to) (hfit : Fit0 M) (hl : M.leads f e l = true) (hr : rightK M f e l) (h0 : 0 ≤ l) (hn : l + (k : Int) = M.n) :
    ∃ M', Ext M M' ∧ M'.wf ∧ M'.room = 1048576 ∧ M'.len + 1 ≤ M.len + ((2 ^ k : Nat) : Int) ∧ Fit0 M' ∧ IsT f M' k (tabE M f e l) l e := by
  have hE := Ext.vast M
  obtain ⟨M', x1, x2, x3, x4, x5, x6⟩ := right_table hf k l M.vast e hw.vast rfl hlen he hfit (hE.leads hl) (rightK_ext hE hw hr) h0 hn
  rw [tabE_ext hw hE (Weak.of hl)] at x6
  exact ⟨M', hE.trans x1, x2, x3, x4, x5, x6⟩

theorem StoreRep.fit0 {F : Nat → Prop} {w : World} {sb : Nat} {M : St} (h : StoreRep F w sb M) : Fit0 M := fun id r hr => by
  have := h.fit hr
  exact ⟨this.lo.2.1, this.hi.2.1⟩

end Go.Proofs.Ytiacdpoldgfpbaa
