/-
  Tables as parts of a block: without a 1, the same, halved (printed by wip/mk_terms.py).
-/
import Derived.Test.YtoeoehbpahodnaaPHPlainA
import Derived.Laws.BytesArg
namespace Go.Proofs.Ytoeoehbpahodnaa
set_option linter.unusedSimpArgs false
set_option linter.unusedVariables false
set_option maxHeartbeats 600000
open Go.RowKit

def TabAt (w : World) (B off : Nat) (ts : List Bool) : Prop := ∀ (i : Nat) (b : Bool), ts[i]? = some b → w.cell? ⟨B, off + i, none⟩ = some (.bool b)

theorem TabAt.keeps {w W : World} {B off : Nat} {ts : List Bool} (h : TabAt w B off ts) (hk : Keeps w W) : TabAt W B off ts := fun i b hb => hk.cell (h i b hb)

theorem TabAt.drop {w : World} {B off : Nat} {ts : List Bool} (h : TabAt w B off ts) (n : Nat) : TabAt w B (off + n) (ts.drop n) := fun i b hb => by
  rw [List.getElem?_drop] at hb
  have := h (n + i) b hb
  rwa [← Nat.add_assoc] at this

theorem TabAt.take {w : World} {B off : Nat} {ts : List Bool} (h : TabAt w B off ts) (n : Nat) : TabAt w B off (ts.take n) := fun i b hb => by
  rw [List.getElem?_take] at hb
  split at hb
  · exact h i b hb
  · cases hb

def sameL : List Bool → List Bool → Bool
  | [], [] => true
  | a :: s, b :: t => decide (a = b) && sameL s t
  | _, _ => false

theorem sameL_iff : ∀ {s t : List Bool}, sameL s t = true ↔ s = t
  | [], [] => by simp [sameL]
  | a :: s, b :: t => by simp [sameL, sameL_iff]
  | [], b :: t => by simp [sameL]
  | a :: s, [] => by simp [sameL]

theorem sameL_len {s t : List Bool} (h : s.length ≠ t.length) : sameL s t = false := by
  cases hs : sameL s t with
  | false => rfl
  | true => exact absurd (congrArg List.length (sameL_iff.1 hs)) h

theorem sameL_drop {s t : List Bool} {i : Nat} {a b : Bool} (ha : s[i]? = some a) (hb : t[i]? = some b) : sameL (s.drop i) (t.drop i) = (decide (a = b) && sameL (s.drop (i + 1)) (t.drop (i + 1))) := by
  obtain ⟨hi, ha⟩ := List.getElem?_eq_some_iff.1 ha
  obtain ⟨hj, hb⟩ := List.getElem?_eq_some_iff.1 hb
  rw [List.drop_eq_getElem_cons hi, List.drop_eq_getElem_cons hj, ha, hb]
  rfl

theorem same_calls {B B2 off off2 : Nat} {ss ts : List Bool} (cap cap2 : Nat) (w : World) (h1 : TabAt w B off ss) (h2 : TabAt w B2 off2 ts) (hl1 : ss.length ≤ 1048576) (hl2 : ts.length ≤ 1048576) :
    Calls Try.prog 45 #[.slice (some ⟨B, off, none⟩) ss.length cap, .slice (some ⟨B2, off2, none⟩) ts.length cap2] w fun e w' => e = .returned (.bool (sameL ss ts)) ∧ Keeps w w' := by
  by_cases hne : ss.length = ts.length
  · obtain ⟨N, hN⟩ : ∃ N, N = ss.length := ⟨_, rfl⟩
    have hM : N = ts.length := hN.trans hne
    rw [← hM, ← hN]
    rw [← hN] at hl1
    have H1 := Lib.hid h1
    have H2 := Lib.hid h2
    have HN := Lib.hid hN
    have HM := Lib.hid hM
    clear h1 h2 hN hM hne hl2
    go_enter Try.func45, Try.ntmps45
    go_wp2
    go_loopg [5] N (fun gk s5 wr => ∃ d : Nat, s5 = .int .i64 (d : Int) ∧ d + gk = N ∧ sameL (ss.drop d) (ts.drop d) = sameL ss ts ∧ Keeps w wr)
    case atStart => exact ⟨0, rfl, by omega, rfl, by (exact kp)⟩
    case round =>
      obtain ⟨d, rfl, hd, hn, hk⟩ := hrel
      have HNN := Lib.hid hn
      clear hn
      by_cases hlt : d < N
      · obtain ⟨a, ha⟩ : ∃ b, ss[d]? = some b := ⟨_, List.getElem?_eq_getElem (by rw [← HN.out]; exact hlt)⟩
        obtain ⟨b, hb⟩ : ∃ b, ts[d]? = some b := ⟨_, List.getElem?_eq_getElem (by rw [← HM.out]; exact hlt)⟩
        have c0 := hk.cell (H1.out d a ha)
        have c1 := hk.cell (H2.out d b hb)
        have hdr := sameL_drop ha hb
        have HD := Lib.hid hdr
        have i0 : (0 : Int) ≤ (d : Int) := by omega
        have i1 : (d : Int) < (N : Int) := by omega
        clear hdr ha hb
        cases a <;> cases b
        case false.false =>
          go_wp2_with fail
          go_quiet (fail)
          go_wp2
          go_roundg (gk - 1)
          case rel => exact ⟨d + 1, by simp, by omega, by rw [← HNN.out, HD.out]; rfl, by (exact kp)⟩
          case measure => omega
        case true.true =>
          go_wp2_with fail
          go_quiet (fail)
          go_wp2
          go_roundg (gk - 1)
          case rel => exact ⟨d + 1, by simp, by omega, by rw [← HNN.out, HD.out]; rfl, by (exact kp)⟩
          case measure => omega
        all_goals
          go_wp2_with fail
          go_quiet (fail)
          go_wp2
          go_ret
          exact ⟨by rw [← HNN.out, HD.out]; rfl, by (exact kp)⟩
      · have hg0 : d = N := by omega
        have hh : sameL ss ts = true := by rw [← HNN.out, List.drop_of_length_le (by rw [← HN.out]; omega), List.drop_of_length_le (by rw [← HM.out]; omega)]; rfl
        have HH := Lib.hid hh
        clear hg0 hh
        go_wp2_with fail
        go_ret
        exact ⟨by rw [HH.out]; rfl, hk⟩
  · have hf := sameL_len hne
    obtain ⟨N, hN⟩ : ∃ N, N = ss.length := ⟨_, rfl⟩
    obtain ⟨K, hK⟩ : ∃ K, K = ts.length := ⟨_, rfl⟩
    rw [hf]
    rw [← hN, ← hK] at hne ⊢
    have gne : ((N : Int) != (K : Int)) = true := by simp; omega
    clear h1 h2 hl1 hl2 hN hK hf hne
    go_enter Try.func45, Try.ntmps45
    go_wp2
    go_ret
    exact ⟨rfl, by (exact kp)⟩

end Go.Proofs.Ytoeoehbpahodnaa

namespace Go.Proofs.Ytoeoehbpahodnaa
set_option linter.unusedSimpArgs false
set_option linter.unusedVariables false
set_option maxHeartbeats 600000
open Go.RowKit

def mkK (f : Int) (M : St) (l : Int) (lo hi : Edge) : (Edge × Int) ⊕ Rec :=
  if f = 5 then tAct M l lo hi else if f = 3 then makeAct M 3 l lo hi (cRest M l lo hi) else if f = 4 then makeAct M 4 l lo hi (qRest M l lo hi)
  else if f = 1 then makeAct M 1 l lo hi (bRest M l lo hi) else makeAct M 2 l lo hi (zRest M l lo hi)

theorem mkK1 (M : St) (l : Int) (lo hi : Edge) : mkK 1 M l lo hi = makeAct M 1 l lo hi (bRest M l lo hi) := rfl

theorem mkK2 (M : St) (l : Int) (lo hi : Edge) : mkK 2 M l lo hi = makeAct M 2 l lo hi (zRest M l lo hi) := rfl

theorem mkK3 (M : St) (l : Int) (lo hi : Edge) : mkK 3 M l lo hi = makeAct M 3 l lo hi (cRest M l lo hi) := rfl

theorem mkK4 (M : St) (l : Int) (lo hi : Edge) : mkK 4 M l lo hi = makeAct M 4 l lo hi (qRest M l lo hi) := rfl

theorem mkK5 (M : St) (l : Int) (lo hi : Edge) : mkK 5 M l lo hi = tAct M l lo hi := rfl

structure Pair (f : Int) (M : St) (l : Int) (lo hi e : Edge) : Prop where
  up : mkK f M l lo hi = .inl (e, 0) ∨ ∃ r, mkK f M l lo hi = .inr r ∧ look M.cs e.to = some r ∧ e.tag = tagOf f r
  down : viewAct M f e l = .inl (lo, hi, 0) ∨ ∃ q, viewAct M f e l = .inr q ∧ look M.cs lo.to = some q ∧ lo.tag = 0 ∧ hi = (if f = 4 then lo else q.hi)
  leads : M.leads f e l = true
  lo : M.leads f lo (l + 1) = true
  hi : M.leads f hi (l + 1) = true

theorem Both2.pair {f : Int} {M : St} {l : Int} {lo hi e : Edge} (h : Both2 f M l lo hi e) (hf : f = 3 ∨ f = 4 ∨ f = 5) : Pair f M l lo hi e := by
  refine ⟨?_, h.down, (right_iff.1 h.right).1, (right_iff.1 h.lo).1, (right_iff.1 h.hi).1⟩
  have hu := h.up
  rcases hf with rfl | rfl | rfl <;> exact hu

theorem Pair.det {f : Int} {M : St} (hw : M.wf) {l : Int} {lo hi e e' : Edge} (h : Pair f M l lo hi e) (h' : Pair f M l lo hi e') : e = e' := by
  rcases h.up with h1 | ⟨r, h1, h2, h3⟩
  · rcases h'.up with h4 | ⟨r', h4, _, _⟩
    · rw [h1] at h4; cases h4; rfl
    · rw [h1] at h4; cases h4
  · rcases h'.up with h4 | ⟨r', h4, h5, h6⟩
    · rw [h1] at h4; cases h4
    · rw [h1] at h4
      cases h4
      have ht : e.to = e'.to := hw.once r e.to e'.to h2 h5
      cases e; cases e'
      simp only at ht h3 h6
      rw [ht, h3, h6]

theorem Pair.inj {f : Int} {M : St} (hw : M.wf) {l : Int} {lo hi lo' hi' e : Edge} (h : Pair f M l lo hi e) (h' : Pair f M l lo' hi' e) : lo = lo' ∧ hi = hi' := by
  rcases h.down with h1 | ⟨q, h1, h2, h3, h4⟩
  · rcases h'.down with g1 | ⟨q', g1, _⟩
    · rw [h1] at g1; cases g1; exact ⟨rfl, rfl⟩
    · rw [h1] at g1; cases g1
  · rcases h'.down with g1 | ⟨q', g1, g2, g3, g4⟩
    · rw [h1] at g1; cases g1
    · rw [h1] at g1
      cases g1
      have ht : lo.to = lo'.to := hw.once q lo.to lo'.to h2 g2
      have hl : lo = lo' := by
        cases lo; cases lo'
        simp only at ht h3 g3
        rw [ht, h3, g3]
      subst hl
      exact ⟨rfl, by rw [h4, g4]⟩

theorem endE_inj {f : Int} {b b' : Bool} {l : Int} (h : endE f b l = endE f b' l) : b = b' := by
  have key : ∀ b : Bool, (endE f b l).to = if b then 1 else 0 := by
    intro b
    unfold endE
    cases b
    · rfl
    · by_cases h5 : f = 5
      · rw [if_pos rfl, if_pos h5]; rfl
      · rw [if_pos rfl, if_neg h5]; rfl
  have := congrArg Edge.to h
  rw [key, key] at this
  cases b <;> cases b' <;> first | rfl | (exfalso; revert this; decide)

theorem endE_leads {M : St} (h : M.wf) {f : Int} {b : Bool} (hf : 1 ≤ f ∧ f ≤ 5) : M.leads f (endE f b M.n) M.n = true := by
  have n0 := h.n0
  have n16 := h.n16
  have hlt : (endE f b M.n).to < 2 := by
    unfold endE
    split
    · split
      · show (1 : Int) < 2; omega
      · show (1 : Int) < 2; omega
    · show (0 : Int) < 2; omega
  refine leads_iff.2 ⟨plainB_iff.2 ⟨by omega, by omega, n0, n16, n0, by omega, fun hh => ?_, fun h5 hz => ?_⟩, .inl hlt⟩
  · unfold endE at hh ⊢
    split at hh
    · split at hh
      · rename_i h5
        rcases hh with hh | hh
        · exact absurd h5 hh
        · have hh2 : (1 : Int) = 0 := hh
          omega
      · rw [if_pos (by assumption), if_neg (by assumption)]
    · rw [if_neg (by assumption)]
  · unfold endE at hz ⊢
    split at hz
    · rw [if_pos (by assumption), if_pos h5]
      exact ⟨by show M.n ≤ M.n; omega, by show M.n ≤ M.n; omega⟩
    · exact absurd rfl hz

def IsT (f : Int) (M : St) : Nat → List Bool → Int → Edge → Prop
  | 0, ts, l, e => ∃ b, ts = [b] ∧ e = endE f b l
  | k + 1, ts, l, e => ts.length = 2 ^ (k + 1) ∧ ∃ lo hi, IsT f M k (ts.take (2 ^ k)) (l + 1) lo ∧ IsT f M k (ts.drop (2 ^ k)) (l + 1) hi ∧ Pair f M l lo hi e

theorem IsT.length {f : Int} {M : St} : ∀ {k : Nat} {ts : List Bool} {l : Int} {e : Edge}, IsT f M k ts l e → ts.length = 2 ^ k := by
  intro k ts l e h
  cases k with
  | zero => obtain ⟨b, rfl, _⟩ := h; rfl
  | succ k => exact h.1

theorem IsT.inj {f : Int} {M : St} (hw : M.wf) : ∀ (k : Nat) (ts ts' : List Bool) (l : Int) (e : Edge), IsT f M k ts l e → IsT f M k ts' l e → ts = ts' := by
  intro k
  induction k with
  | zero =>
    intro ts ts' l e h h'
    obtain ⟨b, rfl, h2⟩ := h
    obtain ⟨b', rfl, h4⟩ := h'
    rw [endE_inj (f := f) (l := l) (b := b) (b' := b') (by rw [← h2, ← h4])]
  | succ k ih =>
    intro ts ts' l e h h'
    obtain ⟨_, lo, hh, h1, h2, h3⟩ := h
    obtain ⟨_, lo', hh', g1, g2, g3⟩ := h'
    obtain ⟨rfl, rfl⟩ := h3.inj hw g3
    rw [← List.take_append_drop (2 ^ k) ts, ← List.take_append_drop (2 ^ k) ts', ih _ _ _ _ h1 g1, ih _ _ _ _ h2 g2]

theorem IsT.det {f : Int} {M : St} (hw : M.wf) : ∀ (k : Nat) (ts : List Bool) (l : Int) (e e' : Edge), IsT f M k ts l e → IsT f M k ts l e' → e = e' := by
  intro k
  induction k with
  | zero =>
    intro ts l e e' h h'
    obtain ⟨b, rfl, h2⟩ := h
    obtain ⟨b', h3, h4⟩ := h'
    cases h3
    rw [h2, h4]
  | succ k ih =>
    intro ts l e e' h h'
    obtain ⟨_, lo, hh, h1, h2, h3⟩ := h
    obtain ⟨_, lo', hh', g1, g2, g3⟩ := h'
    have a1 := ih _ _ _ _ h1 g1
    have a2 := ih _ _ _ _ h2 g2
    subst a1
    subst a2
    exact h3.det hw g3

theorem IsT.leads {f : Int} {M : St} (hw : M.wf) (hf : 1 ≤ f ∧ f ≤ 5) {k : Nat} {ts : List Bool} {l : Int} {e : Edge} (h : IsT f M k ts l e) (hl : l + k = M.n) : M.leads f e l = true := by
  cases k with
  | zero =>
    obtain ⟨b, _, rfl⟩ := h
    have : l = M.n := by simpa using hl
    rw [this]
    exact endE_leads hw hf
  | succ k => obtain ⟨_, _, _, _, _, h3⟩ := h; exact h3.leads

theorem IsT.top {f : Int} {M : St} (hw : M.wf) (hf : 1 ≤ f ∧ f ≤ 5) {k : Nat} {ts : List Bool} {l : Int} {e : Edge} (h : IsT f M k ts l e) (hl : l + k = M.n) {r : Rec} (hr : look M.cs e.to = some r) : l ≤ r.top :=
  (leads_some (h.leads hw hf hl) hr).2.1

end Go.Proofs.Ytoeoehbpahodnaa
