/-
  Plainly: a table's diagram made from below, step by step, and what room it asks for.
-/
import Derived.Test.YtiacdpoldgfpbaaGreatPHMadeK
import Derived.Test.YtiacdpoldgfpbaaGreatPMeansA
namespace Go.Proofs.YtiacdpoldgfpbaaGreat
set_option linter.unusedSimpArgs false
set_option linter.unusedVariables false
set_option maxHeartbeats 600000

def madeP (f : Int) : Nat → St → List Bool → Int → St × Edge
  | 0, M, ts, l => (M, endE f (ts.headD false) l)
  | k + 1, M, ts, l =>
    (actSt (madeP f k (madeP f k M (ts.take (2 ^ k)) (l + 1)).1 (ts.drop (2 ^ k)) (l + 1)).1 (mkK f (madeP f k (madeP f k M (ts.take (2 ^ k)) (l + 1)).1 (ts.drop (2 ^ k)) (l + 1)).1 l (madeP f k M (ts.take (2 ^ k)) (l + 1)).2 (madeP f k (madeP f k M (ts.take (2 ^ k)) (l + 1)).1 (ts.drop (2 ^ k)) (l + 1)).2),
     mkE f (madeP f k (madeP f k M (ts.take (2 ^ k)) (l + 1)).1 (ts.drop (2 ^ k)) (l + 1)).1 (mkK f (madeP f k (madeP f k M (ts.take (2 ^ k)) (l + 1)).1 (ts.drop (2 ^ k)) (l + 1)).1 l (madeP f k M (ts.take (2 ^ k)) (l + 1)).2 (madeP f k (madeP f k M (ts.take (2 ^ k)) (l + 1)).1 (ts.drop (2 ^ k)) (l + 1)).2))

def FitP (f : Int) : Nat → St → List Bool → Int → Prop
  | 0, _, _, _ => True
  | k + 1, M, ts, l =>
    FitP f k M (ts.take (2 ^ k)) (l + 1) ∧ FitP f k (madeP f k M (ts.take (2 ^ k)) (l + 1)).1 (ts.drop (2 ^ k)) (l + 1) ∧
    actErr (madeP f k (madeP f k M (ts.take (2 ^ k)) (l + 1)).1 (ts.drop (2 ^ k)) (l + 1)).1 (mkK f (madeP f k (madeP f k M (ts.take (2 ^ k)) (l + 1)).1 (ts.drop (2 ^ k)) (l + 1)).1 l (madeP f k M (ts.take (2 ^ k)) (l + 1)).2 (madeP f k (madeP f k M (ts.take (2 ^ k)) (l + 1)).1 (ts.drop (2 ^ k)) (l + 1)).2) = 0

theorem madeP_step {f : Int} {k : Nat} {M M1 M2 : St} {ts : List Bool} {l : Int} {lo hi : Edge} (h1 : madeP f k M (ts.take (2 ^ k)) (l + 1) = (M1, lo)) (h2 : madeP f k M1 (ts.drop (2 ^ k)) (l + 1) = (M2, hi)) :
    madeP f (k + 1) M ts l = (actSt M2 (mkK f M2 l lo hi), mkE f M2 (mkK f M2 l lo hi)) := by
  rw [madeP, h1, h2]

theorem fitP_step {f : Int} {k : Nat} {M M1 M2 : St} {ts : List Bool} {l : Int} {lo hi : Edge} (h1 : madeP f k M (ts.take (2 ^ k)) (l + 1) = (M1, lo)) (h2 : madeP f k M1 (ts.drop (2 ^ k)) (l + 1) = (M2, hi)) :
    FitP f (k + 1) M ts l ↔ FitP f k M (ts.take (2 ^ k)) (l + 1) ∧ FitP f k M1 (ts.drop (2 ^ k)) (l + 1) ∧ actErr M2 (mkK f M2 l lo hi) = 0 := by
  rw [FitP, h1, h2]

structure GoodP (f : Int) (M : St) (k : Nat) (ts : List Bool) (l : Int) (M' : St) (e : Edge) : Prop where
  ext : Ext M M'
  wf : M'.wf
  room : M'.room = M.room
  most : M'.len ≤ M.len + ((2 ^ k - 1 : Nat) : Int)
  isT : IsT f M' k ts l e
  right : rightK M' f e l

theorem goodP_both {f : Int} {M M1 M2 : St} {k : Nat} {ts : List Bool} {l : Int} {lo hi : Edge} (hf : 1 ≤ f ∧ f ≤ 5) (h0 : 0 ≤ l) (hn : l + ((k + 1 : Nat) : Int) = M.n) (hl : ts.length = 2 ^ (k + 1)) (hr : M.room < 1048576)
    (g1 : GoodP f M k (ts.take (2 ^ k)) (l + 1) M1 lo) (g2 : GoodP f M1 k (ts.drop (2 ^ k)) (l + 1) M2 hi) :
    MadeAny f M2 l lo hi ∧ (actErr M2 (mkK f M2 l lo hi) = 0 → GoodP f M (k + 1) ts l (actSt M2 (mkK f M2 l lo hi)) (mkE f M2 (mkK f M2 l lo hi))) := by
  have n1 := g1.ext.n
  have n2 := g2.ext.n
  have r1 := g1.room
  have r2 := g2.room
  have t1 := IsT.ext g2.ext hf _ _ _ _ g1.isT
  have k1 := rightK_ext g2.ext g1.wf g1.right
  have hn2 : l + 1 + (k : Int) = M2.n := by push_cast at hn; omega
  have hm := make_any g2.wf hf h0 (by push_cast at hn; omega) (by have := g2.wf.full; omega) (t1.leads g2.wf hf hn2) (g2.isT.leads g2.wf hf hn2) k1 g2.right
  refine ⟨hm, fun he => ?_⟩
  rcases hm with ⟨m1, m2, m3, m4⟩ | ⟨m1, _⟩
  · have e2 : 2 ^ (k + 1) = 2 ^ k + 2 ^ k := by rw [Nat.pow_succ]; omega
    have hp : 0 < 2 ^ k := Nat.pow_pos (by decide)
    refine ⟨(g1.ext.trans g2.ext).trans m3.ext, m3.wf, by rw [m3.room]; omega, ?_, ⟨hl, lo, hi, IsT.ext m3.ext hf _ _ _ _ t1, IsT.ext m3.ext hf _ _ _ _ g2.isT, m2⟩, m4⟩
    have := m3.len
    have := g1.most
    have := g2.most
    omega
  · rw [m1] at he; cases he

theorem goodP_made {f : Int} (hf : 1 ≤ f ∧ f ≤ 5) : ∀ (k : Nat) (M : St) (ts : List Bool) (l : Int), M.wf → M.room < 1048576 → 0 ≤ l → l + (k : Int) = M.n → ts.length = 2 ^ k → FitP f k M ts l → GoodP f M k ts l (madeP f k M ts l).1 (madeP f k M ts l).2 := by
  intro k
  induction k with
  | zero =>
    intro M ts l hw hr h0 hn hl _
    obtain ⟨b, rfl⟩ : ∃ b, ts = [b] := by
      match ts, hl with
      | [b], _ => exact ⟨b, rfl⟩
    have : l = M.n := by simpa using hn
    exact ⟨Ext.refl M, hw, rfl, by show M.len ≤ M.len + _; omega, ⟨b, rfl, rfl⟩, by rw [this]; exact endE_rightK hw⟩
  | succ k ih =>
    intro M ts l hw hr h0 hn hl hfit
    have e2 : 2 ^ (k + 1) = 2 ^ k + 2 ^ k := by rw [Nat.pow_succ]; omega
    obtain ⟨M1, lo, h1⟩ : ∃ M1 lo, madeP f k M (ts.take (2 ^ k)) (l + 1) = (M1, lo) := ⟨_, _, rfl⟩
    obtain ⟨M2, hi, h2⟩ : ∃ M2 hi, madeP f k M1 (ts.drop (2 ^ k)) (l + 1) = (M2, hi) := ⟨_, _, rfl⟩
    obtain ⟨f1, f2, f3⟩ := (fitP_step h1 h2).1 hfit
    rw [madeP_step h1 h2]
    have g1 := ih M (ts.take (2 ^ k)) (l + 1) hw hr (by omega) (by push_cast at hn; omega) (by rw [List.length_take]; omega) f1
    rw [h1] at g1
    dsimp only at g1
    have n1 := g1.ext.n
    have r1 := g1.room
    have g2 := ih M1 (ts.drop (2 ^ k)) (l + 1) g1.wf (by omega) (by omega) (by push_cast at hn; omega) (by rw [List.length_drop]; omega) f2
    rw [h2] at g2
    dsimp only at g2
    exact (goodP_both hf h0 hn hl hr g1 g2).2 f3

theorem fitP_room {f : Int} (hf : 1 ≤ f ∧ f ≤ 5) : ∀ (k : Nat) (M : St) (ts : List Bool) (l : Int), M.wf → M.room < 1048576 → 0 ≤ l → l + (k : Int) = M.n → ts.length = 2 ^ k → M.len + ((2 ^ k - 1 : Nat) : Int) ≤ M.room → FitP f k M ts l := by
  intro k
  induction k with
  | zero => intro M ts l _ _ _ _ _ _; trivial
  | succ k ih =>
    intro M ts l hw hr h0 hn hl hroom
    have e2 : 2 ^ (k + 1) = 2 ^ k + 2 ^ k := by rw [Nat.pow_succ]; omega
    have hp : 0 < 2 ^ k := Nat.pow_pos (by decide)
    obtain ⟨M1, lo, h1⟩ : ∃ M1 lo, madeP f k M (ts.take (2 ^ k)) (l + 1) = (M1, lo) := ⟨_, _, rfl⟩
    obtain ⟨M2, hi, h2⟩ : ∃ M2 hi, madeP f k M1 (ts.drop (2 ^ k)) (l + 1) = (M2, hi) := ⟨_, _, rfl⟩
    have l1 : (ts.take (2 ^ k)).length = 2 ^ k := by rw [List.length_take]; omega
    have l2 : (ts.drop (2 ^ k)).length = 2 ^ k := by rw [List.length_drop]; omega
    have f1 := ih M (ts.take (2 ^ k)) (l + 1) hw hr (by omega) (by push_cast at hn; omega) l1 (by omega)
    have g1 := goodP_made hf k M (ts.take (2 ^ k)) (l + 1) hw hr (by omega) (by push_cast at hn; omega) l1 f1
    rw [h1] at g1
    dsimp only at g1
    have n1 := g1.ext.n
    have r1 := g1.room
    have m1 := g1.most
    have f2 := ih M1 (ts.drop (2 ^ k)) (l + 1) g1.wf (by omega) (by omega) (by push_cast at hn; omega) l2 (by omega)
    have g2 := goodP_made hf k M1 (ts.drop (2 ^ k)) (l + 1) g1.wf (by omega) (by omega) (by push_cast at hn; omega) l2 f2
    rw [h2] at g2
    dsimp only at g2
    have r2 := g2.room
    have m2 := g2.most
    refine (fitP_step h1 h2).2 ⟨f1, f2, ?_⟩
    rcases (goodP_both hf h0 hn hl hr g1 g2).1 with ⟨q, _⟩ | ⟨_, _, _, q⟩
    · exact q
    · omega

def St.at (M : St) (r : Int) : St := { M with room := r }

theorem len_put {M : St} (hw : M.wf) (q : Rec) : ((putCs M.cs M.gone q).length : Int) - (M.gone.dropLast.length : Int) = M.len + 1 := by
  unfold putCs St.len
  cases hg : M.gone.getLast? with
  | none =>
    have : M.gone = [] := List.getLast?_eq_none_iff.1 hg
    rw [this]
    simp
  | some id =>
    have hne : M.gone ≠ [] := fun hh => by rw [hh] at hg; cases hg
    have : 0 < M.gone.length := List.length_pos_iff.2 hne
    simp only [List.length_set, List.length_dropLast]
    omega

theorem find_at {M : St} (hw : M.wf) {q : Rec} (he : M.findErr q = 0) {r : Int} (hr : (M.findSt q).len ≤ r) : (M.at r).findErr q = 0 ∧ (M.at r).findSt q = (M.findSt q).at r ∧ (M.at r).findId q = M.findId q := by
  have e1 : (M.at r).idOf q = M.idOf q := rfl
  have e2 : (M.at r).bad q = M.bad q := rfl
  have e3 : (M.at r).len = M.len := rfl
  unfold St.findErr at he ⊢
  unfold St.findSt at hr ⊢
  unfold St.findId
  rw [e1]
  cases hi : M.idOf q with
  | some id => exact ⟨rfl, rfl, rfl⟩
  | none =>
    rw [hi] at he hr
    simp only [] at he hr ⊢
    rw [e2, e3]
    by_cases hb : M.bad q = true
    · rw [if_pos hb] at he; cases he
    · rw [if_neg hb] at he hr ⊢
      by_cases hm : M.room ≤ M.len
      · rw [if_pos hm] at he; cases he
      · rw [if_neg hm] at hr ⊢
        have hlen : M.len + 1 ≤ r := by
          rw [← len_put hw q]
          exact hr
        have hm2 : ¬ (M.at r).room ≤ M.len := by show ¬ r ≤ M.len; omega
        rw [if_neg hm2, if_neg hm2, if_neg hm2, if_neg hb, if_neg hb, if_neg hm]
        exact ⟨rfl, rfl, rfl⟩

theorem act_at {f : Int} {M : St} (hw : M.wf) {a : (Edge × Int) ⊕ Rec} (he : actErr M a = 0) {r : Int} (hr : (actSt M a).len ≤ r) : actErr (M.at r) a = 0 ∧ actSt (M.at r) a = (actSt M a).at r ∧ mkE f (M.at r) a = mkE f M a := by
  cases a with
  | inl x => exact ⟨he, rfl, by unfold mkE; split <;> rfl⟩
  | inr q =>
    obtain ⟨a1, a2, a3⟩ := find_at hw (q := q) he hr
    change M.findErr q = 0 at he
    refine ⟨a1, a2, ?_⟩
    unfold mkE
    split
    · show foundE (M.at r) q.top q = foundE M q.top q
      rw [foundE_ok a1, foundE_ok he, a3]
    · show foundE (M.at r) 0 q = foundE M 0 q
      rw [foundE_ok a1, foundE_ok he, a3]

theorem act_len (M : St) (a : (Edge × Int) ⊕ Rec) : M.len ≤ (actSt M a).len := by
  cases a with
  | inl x => exact Int.le_refl _
  | inr q => exact (findSt_len M q).1

theorem madeP_len {f : Int} : ∀ (k : Nat) (M : St) (ts : List Bool) (l : Int), M.len ≤ (madeP f k M ts l).1.len := by
  intro k
  induction k with
  | zero => intro M ts l; exact Int.le_refl _
  | succ k ih =>
    intro M ts l
    obtain ⟨M1, lo, h1⟩ : ∃ M1 lo, madeP f k M (ts.take (2 ^ k)) (l + 1) = (M1, lo) := ⟨_, _, rfl⟩
    obtain ⟨M2, hi, h2⟩ : ∃ M2 hi, madeP f k M1 (ts.drop (2 ^ k)) (l + 1) = (M2, hi) := ⟨_, _, rfl⟩
    rw [madeP_step h1 h2]
    have a := ih M (ts.take (2 ^ k)) (l + 1)
    have b := ih M1 (ts.drop (2 ^ k)) (l + 1)
    rw [h1] at a
    rw [h2] at b
    exact Int.le_trans (Int.le_trans a b) (act_len _ _)

theorem fitP_at {f : Int} (hf : 1 ≤ f ∧ f ≤ 5) {r : Int} : ∀ (k : Nat) (M : St) (ts : List Bool) (l : Int), M.wf → M.room < 1048576 → 0 ≤ l → l + (k : Int) = M.n → ts.length = 2 ^ k → FitP f k M ts l → (madeP f k M ts l).1.len ≤ r →
    FitP f k (M.at r) ts l ∧ madeP f k (M.at r) ts l = ((madeP f k M ts l).1.at r, (madeP f k M ts l).2) := by
  intro k
  induction k with
  | zero => intro M ts l _ _ _ _ _ _ _; exact ⟨trivial, rfl⟩
  | succ k ih =>
    intro M ts l hw hrm h0 hn hl hfit hr
    have e2 : 2 ^ (k + 1) = 2 ^ k + 2 ^ k := by rw [Nat.pow_succ]; omega
    obtain ⟨M1, lo, h1⟩ : ∃ M1 lo, madeP f k M (ts.take (2 ^ k)) (l + 1) = (M1, lo) := ⟨_, _, rfl⟩
    obtain ⟨M2, hi, h2⟩ : ∃ M2 hi, madeP f k M1 (ts.drop (2 ^ k)) (l + 1) = (M2, hi) := ⟨_, _, rfl⟩
    obtain ⟨f1, f2, f3⟩ := (fitP_step h1 h2).1 hfit
    have l1 : (ts.take (2 ^ k)).length = 2 ^ k := by rw [List.length_take]; omega
    have l2 : (ts.drop (2 ^ k)).length = 2 ^ k := by rw [List.length_drop]; omega
    have g1 := goodP_made hf k M (ts.take (2 ^ k)) (l + 1) hw hrm (by omega) (by push_cast at hn; omega) l1 f1
    rw [h1] at g1
    dsimp only at g1
    have n1 := g1.ext.n
    have r1 := g1.room
    have g2 := goodP_made hf k M1 (ts.drop (2 ^ k)) (l + 1) g1.wf (by omega) (by omega) (by push_cast at hn; omega) l2 f2
    rw [h2] at g2
    dsimp only at g2
    rw [madeP_step h1 h2] at hr ⊢
    have a3 := act_len M2 (mkK f M2 l lo hi)
    have a2 := madeP_len (f := f) k M1 (ts.drop (2 ^ k)) (l + 1)
    rw [h2] at a2
    simp only at a2 hr
    obtain ⟨b1, b2⟩ := ih M (ts.take (2 ^ k)) (l + 1) hw hrm (by omega) (by push_cast at hn; omega) l1 f1 (by rw [h1]; show M1.len ≤ r; omega)
    rw [h1] at b2
    obtain ⟨c1, c2⟩ := ih M1 (ts.drop (2 ^ k)) (l + 1) g1.wf (by omega) (by omega) (by push_cast at hn; omega) l2 f2 (by rw [h2]; show M2.len ≤ r; omega)
    rw [h2] at c2
    obtain ⟨d1, d2, d3⟩ := act_at (f := f) g2.wf f3 hr
    have hk : mkK f (M2.at r) l lo hi = mkK f M2 l lo hi := rfl
    refine ⟨(fitP_step b2 c2).2 ⟨b1, c1, by rw [hk]; exact d1⟩, ?_⟩
    rw [madeP_step b2 c2, hk, d2, d3]

end Go.Proofs.YtiacdpoldgfpbaaGreat
