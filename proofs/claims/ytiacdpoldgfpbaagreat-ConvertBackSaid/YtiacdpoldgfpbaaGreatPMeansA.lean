/-
  Plainly: what an edge means, level by level; View tells the two halves of what it means.
-/
import Derived.Test.YtiacdpoldgfpbaaGreatPHoldsY
import Derived.Test.YtiacdpoldgfpbaaGreatPKPlain
namespace Go.Proofs.YtiacdpoldgfpbaaGreat
set_option linter.unusedSimpArgs false
set_option linter.unusedVariables false
set_option maxHeartbeats 600000

def Weak (M : St) (f l : Int) (e : Edge) : Prop := l ≤ M.n ∧ (e.to < 2 ∨ ∃ r, look M.cs e.to = some r ∧ r.form = f ∧ l ≤ r.top)

theorem Weak.next {M : St} {f l : Int} {e : Edge} (hw : Weak M f l e) (hl : l < M.n) : (look M.cs e.to = none ∧ Weak M f (l + 1) e) ∨ ∃ r, look M.cs e.to = some r ∧ r.form = f ∧ ((l < r.top ∧ Weak M f (l + 1) e) ∨ l = r.top) := by
  obtain ⟨h1, h2⟩ := hw
  rcases h2 with h2 | ⟨r, a, b, c⟩
  · exact .inl ⟨look_low h2, by omega, .inl h2⟩
  · right
    refine ⟨r, a, b, ?_⟩
    by_cases hc : l < r.top
    · exact .inl ⟨hc, by omega, .inr ⟨r, a, b, by omega⟩⟩
    · exact .inr (by omega)

theorem find_zero {M : St} (h : M.wf) {r : Rec} (hb : M.bad r = false) (he : M.findErr r = 0) :
    look (M.findSt r).cs (M.findId r) = some r ∧ Ext M (M.findSt r) ∧ (M.findSt r).wf ∧ 2 ≤ M.findId r ∧ (M.findSt r).len ≤ M.len + 1 ∧ (M.findSt r).room = M.room := by
  cases hi : M.idOf r with
  | some id =>
    have hl := (idOf_iff h.once r id).2 hi
    obtain ⟨a, b, c⟩ := find_old h hl
    rw [b, c]
    exact ⟨hl, Ext.refl M, h, (look_some hl).1, by omega, rfl⟩
  | none =>
    have hroom : M.len < M.room := by
      unfold St.findErr at he
      rw [hi] at he
      simp only [] at he
      rw [if_neg (by rw [hb]; simp)] at he
      split at he
      · cases he
      · omega
    obtain ⟨a, b, c, d, e, g⟩ := find_good h hb hroom
    have hg := grown_find h hb hroom
    exact ⟨b, hg.ext, hg.wf, g, hg.len, hg.room⟩

theorem find_full {M : St} {r : Rec} (hb : M.bad r = false) (he : M.findErr r ≠ 0) : M.findErr r = 6 ∧ M.findSt r = M ∧ M.room ≤ M.len := by
  unfold St.findErr at he ⊢
  unfold St.findSt
  cases hi : M.idOf r with
  | some id => rw [hi] at he; exact absurd rfl he
  | none =>
    rw [hi] at he
    simp only [] at he ⊢
    rw [if_neg (by rw [hb]; simp)] at he ⊢
    split at he
    · rename_i hc
      rw [if_pos hc, if_neg (by rw [hb]; simp), if_pos hc]
      exact ⟨rfl, rfl, hc⟩
    · exact absurd rfl he

end Go.Proofs.YtiacdpoldgfpbaaGreat

namespace Go.Proofs.YtiacdpoldgfpbaaGreat
set_option linter.unusedSimpArgs false
set_option linter.unusedVariables false
set_option maxHeartbeats 600000

def St.vast (M : St) : St := { M with room := 1048576 }

theorem St.wf.vast {M : St} (h : M.wf) : M.vast.wf := ⟨h.n0, h.n16, h.gone, h.nodup, h.good, h.once, h.len0, by show (0 : Int) ≤ 1048576; omega, by show (1048576 : Int) ≤ 1048576; omega, by have := h.full; have := h.room1; show M.len ≤ 1048576; omega⟩

theorem Ext.vast (M : St) : Ext M M.vast := ⟨rfl, fun _ _ h => h⟩

theorem Ext.unvast (M : St) : Ext M.vast M := ⟨rfl, fun _ _ h => h⟩

end Go.Proofs.YtiacdpoldgfpbaaGreat

namespace Go.Proofs.YtiacdpoldgfpbaaGreat
set_option linter.unusedSimpArgs false
set_option linter.unusedVariables false
set_option maxHeartbeats 600000

def OkF (M : St) (f a : Int) : Prop := f = 3 ∨ f = 4 ∨ f = 5 → okReach M f a

theorem rightK_iff {M : St} {f : Int} {e : Edge} {l : Int} (hl : M.leads f e l = true) : rightK M f e l ↔ OkF M f e.to :=
  ⟨fun h hf => (right_iff.1 (h hf)).2, fun h hf => right_iff.2 ⟨hl, h hf⟩⟩

def MadeAny (g : Int) (M : St) (l : Int) (lo hi : Edge) : Prop :=
  (actErr M (mkK g M l lo hi) = 0 ∧ Pair g (actSt M (mkK g M l lo hi)) l lo hi (mkE g M (mkK g M l lo hi)) ∧ GrownBy M (actSt M (mkK g M l lo hi)) 1 ∧ rightK (actSt M (mkK g M l lo hi)) g (mkE g M (mkK g M l lo hi)) l) ∨
  (actErr M (mkK g M l lo hi) = 6 ∧ actSt M (mkK g M l lo hi) = M ∧ mkE g M (mkK g M l lo hi) = ⟨0, 0⟩ ∧ M.room ≤ M.len)

theorem make_any {g : Int} {M : St} (h : M.wf) {l : Int} {lo hi : Edge} (hg : 1 ≤ g ∧ g ≤ 5) (h0 : 0 ≤ l) (h1 : l < M.n) (hlen : M.len < 1048576) (a1 : M.leads g lo (l + 1) = true) (b1 : M.leads g hi (l + 1) = true)
    (hlo : rightK M g lo (l + 1)) (hhi : rightK M g hi (l + 1)) : MadeAny g M l lo hi := by
  have hE := Ext.vast M
  have hm := makesK h.vast hg h0 h1 hlen (hE.leads a1) (hE.leads b1) (rightK_ext hE h hlo) (rightK_ext hE h hhi)
  have e1 : mkK g M.vast l lo hi = mkK g M l lo hi := rfl
  obtain ⟨m1, m2, m3, m4⟩ := hm
  rw [e1] at m1 m2 m3 m4
  unfold MadeAny
  cases ha : mkK g M l lo hi with
  | inl x =>
    rw [ha] at m1 m2 m3 m4
    have k1 : mkE g M.vast (.inl x) = mkE g M (.inl x) := by unfold mkE; split <;> rfl
    rw [k1] at m2 m4
    exact .inl ⟨m1, m2.ext (Ext.unvast M) hg, ⟨Ext.refl _, h, by show M.len ≤ M.len + 1; omega, rfl⟩, rightK_ext (Ext.unvast M) h.vast m4⟩
  | inr r =>
    rw [ha] at m1 m2 m3 m4
    change M.vast.findErr r = 0 at m1
    have hidv : M.vast.idOf r = M.idOf r := rfl
    have hbv : M.vast.bad r = M.bad r := rfl
    by_cases he : M.findErr r = 0
    · left
      have hid : M.vast.findId r = M.findId r := by
        unfold St.findErr at m1 he
        unfold St.findId
        rw [hidv] at m1 ⊢
        cases hi : M.idOf r with
        | some id => rfl
        | none =>
          rw [hi] at m1 he
          simp only [] at m1 he ⊢
          have hb : M.bad r = false := by
            cases hb : M.bad r with
            | false => rfl
            | true => rw [hb] at he; cases he
          rw [hbv, hb] at m1 ⊢
          rw [hb] at he
          rw [if_neg (by simp)] at m1 he
          simp only [Bool.false_eq_true, if_false]
          have q1 : ¬ M.room ≤ M.len := fun hh => by rw [if_pos hh] at he; cases he
          have q2 : ¬ M.vast.room ≤ M.vast.len := fun hh => by rw [if_pos hh] at m1; cases m1
          rw [if_neg q1, if_neg q2]
          rfl
      have hcs : (M.vast.findSt r).cs = (M.findSt r).cs ∧ (M.vast.findSt r).n = (M.findSt r).n := by
        unfold St.findErr at m1 he
        unfold St.findSt
        rw [hidv] at m1 ⊢
        cases hi : M.idOf r with
        | some id => exact ⟨rfl, rfl⟩
        | none =>
          rw [hi] at m1 he
          simp only [] at m1 he ⊢
          have hb : M.bad r = false := by
            cases hb : M.bad r with
            | false => rfl
            | true => rw [hb] at he; cases he
          rw [hbv, hb] at m1 ⊢
          rw [hb] at he
          rw [if_neg (by simp)] at m1 he
          simp only [Bool.false_eq_true, if_false]
          have q1 : ¬ M.room ≤ M.len := fun hh => by rw [if_pos hh] at he; cases he
          have q2 : ¬ M.vast.room ≤ M.vast.len := fun hh => by rw [if_pos hh] at m1; cases m1
          rw [if_neg q1, if_neg q2]
          exact ⟨rfl, rfl⟩
      have hEx : Ext (M.vast.findSt r) (M.findSt r) := ⟨hcs.2.symm, fun _ _ hh => by rw [← hcs.1]; exact hh⟩
      have k1 : mkE g M.vast (.inr r) = mkE g M (.inr r) := by
        unfold mkE
        split
        · show foundE M.vast r.top r = foundE M r.top r
          rw [foundE_ok m1, foundE_ok he, hid]
        · show foundE M.vast 0 r = foundE M 0 r
          rw [foundE_ok m1, foundE_ok he, hid]
      rw [k1] at m2 m4
      have hwv : (M.vast.findSt r).wf := m3.wf
      have hgr : GrownBy M (M.findSt r) 1 := by
        cases hb : M.bad r with
        | false =>
          obtain ⟨z1, z2, z3, z4, z5, z6⟩ := find_zero h hb he
          exact ⟨z2, z3, z5, z6⟩
        | true =>
          have hid2 : ∃ id, M.idOf r = some id := by
            unfold St.findErr at he
            cases hi : M.idOf r with
            | some id => exact ⟨id, rfl⟩
            | none => rw [hi] at he; simp only [] at he; rw [hb, if_pos rfl] at he; cases he
          obtain ⟨id, hi⟩ := hid2
          have := (find_old h ((idOf_iff h.once r id).2 hi)).2.2
          rw [this]
          exact GrownBy.refl h (by decide)
      exact ⟨he, m2.ext hEx hg, hgr, rightK_ext hEx hwv m4⟩
    · right
      have hb : M.bad r = false := by
        cases hb : M.bad r with
        | false => rfl
        | true =>
          exfalso
          unfold St.findErr at m1 he
          rw [hidv, hbv, hb] at m1
          cases hi : M.idOf r with
          | some id => rw [hi] at he; exact he rfl
          | none => rw [hi] at m1; simp at m1
      obtain ⟨f1, f2, f3⟩ := find_full hb he
      refine ⟨f1, f2, ?_, f3⟩
      unfold mkE
      split
      · exact foundE_bad he
      · exact foundE_bad he

theorem isT_zero {g : Int} {M : St} (h : M.wf) (hg : 1 ≤ g ∧ g ≤ 5) : ∀ (k : Nat) (l : Int), 0 ≤ l → l + (k : Int) = M.n → IsT g M k (List.replicate (2 ^ k) false) l ⟨0, 0⟩ := by
  have hn := h.n0
  have hn16 := h.n16
  have hld : ∀ l : Int, 0 ≤ l → l ≤ M.n → M.leads g ⟨0, 0⟩ l = true := fun l h0 h1 =>
    leads_iff.2 ⟨plainB_iff.2 ⟨hg.1, hg.2, hn, hn16, h0, h1, fun _ => rfl, fun _ hh => absurd rfl hh⟩, .inl (by show (0 : Int) < 2; omega)⟩
  intro k
  induction k with
  | zero => intro l _ _; exact ⟨false, rfl, rfl⟩
  | succ k ih =>
    intro l h0 hl
    push_cast at hl
    have hh := ih (l + 1) (by omega) (by omega)
    have e2 : 2 ^ (k + 1) = 2 ^ k + 2 ^ k := by rw [Nat.pow_succ]; omega
    have ht : (List.replicate (2 ^ (k + 1)) false).take (2 ^ k) = List.replicate (2 ^ k) false := by rw [List.take_replicate, e2, Nat.min_eq_left (Nat.le_add_right _ _)]
    have hd : (List.replicate (2 ^ (k + 1)) false).drop (2 ^ k) = List.replicate (2 ^ k) false := by rw [List.drop_replicate, e2, Nat.add_sub_cancel]
    have l1 := hld l h0 (by omega)
    have l2 := hld (l + 1) (by omega) (by omega)
    refine ⟨by simp, ⟨0, 0⟩, ⟨0, 0⟩, by rw [ht]; exact hh, by rw [hd]; exact hh, ⟨.inl ?_, .inl ?_, l1, l2, l2⟩⟩
    · have nm : ¬ (l < 0 ∨ M.n ≤ l) := by omega
      have nl : ∀ f : Int, f = g → ¬ (M.leads f ⟨0, 0⟩ (l + 1) = false ∨ M.leads f ⟨0, 0⟩ (l + 1) = false) := fun f hf => by rw [hf, l2]; simp
      have hgg : g = 1 ∨ g = 2 ∨ g = 3 ∨ g = 4 ∨ g = 5 := by omega
      rcases hgg with rfl | rfl | rfl | rfl | rfl
      · rw [mkK1]; unfold makeAct bRest; rw [if_neg nm, if_neg (nl _ rfl), if_pos rfl]
      · rw [mkK2]; unfold makeAct zRest; rw [if_neg nm, if_neg (nl _ rfl), if_pos rfl]
      · rw [mkK3]; unfold makeAct cRest; rw [if_neg nm, if_neg (nl _ rfl), if_pos rfl]
      · rw [mkK4]; unfold makeAct qRest; rw [if_neg nm, if_neg (nl _ rfl), if_pos rfl]
      · rw [mkK5]; unfold tAct; rw [if_neg nm, if_neg (nl _ rfl), if_pos rfl]
    · unfold viewAct
      rw [if_neg (by omega), if_neg (by rw [l1]; simp)]
      by_cases h5 : g = 5
      · rw [if_pos ⟨h5, .inl rfl⟩]
      · rw [if_neg (fun hh => h5 hh.1), look_low (by decide)]
        show Sum.inl (vOut g l ⟨0, 0⟩) = _
        unfold vOut
        rw [if_neg h5]
        split <;> rfl

end Go.Proofs.YtiacdpoldgfpbaaGreat

namespace Go.Proofs.YtiacdpoldgfpbaaGreat
set_option linter.unusedSimpArgs false
set_option linter.unusedVariables false
set_option maxHeartbeats 600000
open Go.RowKit

def MadeAt (f : Int) (M : St) (bs : List Bool) (k off : Nat) (l : Int) (e : Edge) : Prop := IsT f M k ((bs.drop off).take (2 ^ k)) l e ∧ rightK M f e l

theorem MadeAt.ext {f : Int} {M M' : St} {bs : List Bool} (hE : Ext M M') (hw : M.wf) (hf : 1 ≤ f ∧ f ≤ 5) {k off : Nat} {l : Int} {e : Edge} (h : MadeAt f M bs k off l e) : MadeAt f M' bs k off l e :=
  ⟨IsT.ext hE hf _ _ _ _ h.1, rightK_ext hE hw h.2⟩

theorem MadeAt.pair {f : Int} {M : St} {bs : List Bool} {k off : Nat} {l : Int} {lo hi e : Edge} (h1 : MadeAt f M bs k off (l + 1) lo) (h2 : MadeAt f M bs k (off + 2 ^ k) (l + 1) hi) (h3 : Pair f M l lo hi e) (hr : rightK M f e l) (hlen : off + 2 ^ (k + 1) ≤ bs.length) : MadeAt f M bs (k + 1) off l e := by
  have e2 : 2 ^ (k + 1) = 2 ^ k + 2 ^ k := by rw [Nat.pow_succ]; omega
  have hp : 0 < 2 ^ k := Nat.pow_pos (by decide)
  refine ⟨⟨by simp only [List.length_take, List.length_drop]; omega, lo, hi, ?_, ?_, h3⟩, hr⟩
  · rw [List.take_take, show min (2 ^ k) (2 ^ (k + 1)) = 2 ^ k by omega]
    exact h1.1
  · rw [List.drop_take, List.drop_drop, show 2 ^ (k + 1) - 2 ^ k = 2 ^ k by omega]
    exact h2.1

theorem kAct_mkK {M : St} {f l : Int} {lo hi : Edge} (hf : 1 ≤ f ∧ f ≤ 5) : kAct M f l lo hi = mkK f M l lo hi := by
  have hff : f = 1 ∨ f = 2 ∨ f = 3 ∨ f = 4 ∨ f = 5 := by omega
  rcases hff with rfl | rfl | rfl | rfl | rfl <;> rfl

end Go.Proofs.YtiacdpoldgfpbaaGreat
