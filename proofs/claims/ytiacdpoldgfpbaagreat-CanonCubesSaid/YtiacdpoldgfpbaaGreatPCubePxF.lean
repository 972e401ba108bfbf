/-
  Plainly: a cube, made level by level, is its table's own diagram.
-/
import Derived.Test.YtiacdpoldgfpbaaGreatPCubexF
import Derived.Test.YtiacdpoldgfpbaaGreatPHoldsXxH
import Derived.Test.YtiacdpoldgfpbaaGreatPMeansA
import Derived.Test.YtiacdpoldgfpbaaGreatPSmallAxF
namespace Go.Proofs.YtiacdpoldgfpbaaGreat
set_option linter.unusedSimpArgs false
set_option linter.unusedVariables false
set_option maxHeartbeats 600000

def cubeT (o z : Int) : Nat → Int → List Bool
  | 0, _ => [true]
  | k + 1, l => (if bitB o l then List.replicate (2 ^ k) false else cubeT o z k (l + 1)) ++ (if bitB z l then List.replicate (2 ^ k) false else cubeT o z k (l + 1))

theorem cubeT_len (o z : Int) : ∀ (k : Nat) (l : Int), (cubeT o z k l).length = 2 ^ k := by
  intro k
  induction k with
  | zero => intro l; rfl
  | succ k ih =>
    intro l
    show (_ ++ _ : List Bool).length = _
    have h : ∀ b : Bool, (if b then List.replicate (2 ^ k) false else cubeT o z k (l + 1)).length = 2 ^ k := fun b => by
      cases b
      · exact ih (l + 1)
      · simp
    rw [List.length_append, h, h, Nat.pow_succ]
    omega

theorem isT_low {f : Int} {M : St} (h : M.wf) (hf : 1 ≤ f ∧ f ≤ 5) {k : Nat} {ts : List Bool} {l : Int} {v : Edge} (hv : IsT f M k ts l v) (hr : rightK M f v l) (h0 : 0 ≤ l) (hl : l + (k : Int) = M.n) (b : Bool) :
    IsT f M k (if b then List.replicate (2 ^ k) false else ts) l (if b then ⟨0, 0⟩ else v) ∧ rightK M f (if b then ⟨0, 0⟩ else v) l := by
  cases b
  · exact ⟨hv, hr⟩
  · have hz := isT_zero h hf k l h0 hl
    exact ⟨hz, (rightK_iff (hz.leads h hf hl)).2 (fun _ => okReach_low (look_low (by decide)))⟩

theorem cube_plain {f l o z : Int} (hf : 1 ≤ f ∧ f ≤ 5) (h0 : 0 ≤ l) (o0 : 0 ≤ o) (o1 : o ≤ 65535) (z0 : 0 ≤ z) (z1 : z ≤ 65535) : ∀ (d K : Nat) (M : St) (v : Edge), M.wf → M.room < 1048576 → l + (d : Int) + (K : Int) = M.n → IsT f M K (cubeT o z K (l + (d : Int))) (l + (d : Int)) v → rightK M f v (l + (d : Int)) →
    Ext M (cubeGo f l o z d M v).2.2 ∧ (cubeGo f l o z d M v).2.2.wf ∧ (cubeGo f l o z d M v).2.2.room = M.room ∧
    (((cubeGo f l o z d M v).2.1 = 0 ∧ IsT f (cubeGo f l o z d M v).2.2 (K + d) (cubeT o z (K + d) l) l (cubeGo f l o z d M v).1 ∧ rightK (cubeGo f l o z d M v).2.2 f (cubeGo f l o z d M v).1 l) ∨
     ((cubeGo f l o z d M v).2.1 = 6 ∧ (cubeGo f l o z d M v).1 = ⟨0, 0⟩ ∧ M.room ≤ (cubeGo f l o z d M v).2.2.len ∧ (cubeGo f l o z d M v).2.2.len + 1 ≤ M.len + (d : Int))) := by
  intro d
  induction d with
  | zero =>
    intro K M v hw hr hn hv hrt
    refine ⟨Ext.refl M, hw, rfl, .inl ⟨rfl, ?_, ?_⟩⟩
    · show IsT f M (K + 0) (cubeT o z (K + 0) l) l v
      rw [show l + ((0 : Nat) : Int) = l by omega] at hv
      exact hv
    · show rightK M f v l
      rw [show l + ((0 : Nat) : Int) = l by omega] at hrt
      exact hrt
  | succ d ih =>
    intro K M v hw hr hn hv hrt
    push_cast at hn hv hrt
    have e1 : l + ((d : Int) + 1) = l + (d : Int) + 1 := by omega
    rw [e1] at hv hrt
    have hk : ∀ (a b : Edge), kAct M f (l + (d : Int)) a b = mkK f M (l + (d : Int)) a b := fun a b => kAct_mkK hf
    obtain ⟨i1, i2⟩ := isT_low hw hf hv hrt (by omega) (by omega) (bitB o (l + (d : Int)))
    obtain ⟨j1, j2⟩ := isT_low hw hf hv hrt (by omega) (by omega) (bitB z (l + (d : Int)))
    have e2 : lowE o (l + (d : Int)) v = if bitB o (l + (d : Int)) then ⟨0, 0⟩ else v := by
      unfold lowE onB
      rw [bit_u16 o0 o1]
    have e3 : lowE z (l + (d : Int)) v = if bitB z (l + (d : Int)) then ⟨0, 0⟩ else v := by
      unfold lowE onB
      rw [bit_u16 z0 z1]
    rw [← e2] at i1 i2
    rw [← e3] at j1 j2
    obtain ⟨lo, hlo⟩ : ∃ x, x = lowE o (l + (d : Int)) v := ⟨_, rfl⟩
    obtain ⟨hi, hhi⟩ : ∃ x, x = lowE z (l + (d : Int)) v := ⟨_, rfl⟩
    rw [← hlo] at i1 i2
    rw [← hhi] at j1 j2
    have hm := make_any hw hf (l := l + (d : Int)) (by omega) (by omega) (by have := hw.full; omega) (i1.leads hw hf (by omega)) (j1.leads hw hf (by omega)) i2 j2
    have hgo : cubeGo f l o z (d + 1) M v = if actErr M (mkK f M (l + (d : Int)) lo hi) = 0 then cubeGo f l o z d (actSt M (mkK f M (l + (d : Int)) lo hi)) (mkE f M (mkK f M (l + (d : Int)) lo hi)) else (⟨0, 0⟩, actErr M (mkK f M (l + (d : Int)) lo hi), actSt M (mkK f M (l + (d : Int)) lo hi)) := by
      show (if actErr M (kAct M f (l + (d : Int)) (lowE o (l + (d : Int)) v) (lowE z (l + (d : Int)) v)) = 0 then _ else _) = _
      rw [hk, ← hlo, ← hhi]
      rfl
    rw [hgo]
    rcases hm with ⟨m1, m2, m3, m4⟩ | ⟨m1, m2, m3, m4⟩
    · rw [if_pos m1]
      have hT : IsT f (actSt M (mkK f M (l + (d : Int)) lo hi)) (K + 1) (cubeT o z (K + 1) (l + (d : Int))) (l + (d : Int)) (mkE f M (mkK f M (l + (d : Int)) lo hi)) := by
        have h1 := i1.length
        have h2 := j1.length
        refine ⟨cubeT_len o z (K + 1) _, lo, hi, ?_, ?_, m2⟩
        · show IsT f _ K ((_ ++ _ : List Bool).take (2 ^ K)) _ lo
          rw [List.take_append_of_le_length (by omega), List.take_of_length_le (by omega)]
          exact IsT.ext m3.ext hf _ _ _ _ i1
        · show IsT f _ K ((_ ++ _ : List Bool).drop (2 ^ K)) _ hi
          rw [List.drop_append_of_le_length (by omega), List.drop_of_length_le (by omega), List.nil_append]
          exact IsT.ext m3.ext hf _ _ _ _ j1
      have hn1 := m3.ext.n
      obtain ⟨q1, q2, q3, q4⟩ := ih (K + 1) _ _ m3.wf (by rw [m3.room]; exact hr) (by push_cast; omega) hT m4
      refine ⟨m3.ext.trans q1, q2, q3.trans m3.room, ?_⟩
      rcases q4 with ⟨a, b, c⟩ | ⟨a, b, c, e⟩
      · left
        rw [show K + 1 + d = K + (d + 1) by omega] at b
        exact ⟨a, b, c⟩
      · right
        have := m3.len
        rw [m3.room] at c
        exact ⟨a, b, c, by push_cast; omega⟩
    · rw [if_neg (by rw [m1]; decide), m1, m2]
      exact ⟨Ext.refl M, hw, rfl, .inr ⟨rfl, rfl, m4, by push_cast; show M.len + 1 ≤ _; omega⟩⟩

theorem IsT.fits {f : Int} {M : St} (hw : M.wf) (hfew : M.cs.length ≤ 1048576) (hf : 1 ≤ f ∧ f ≤ 5) : ∀ (k : Nat) (ts : List Bool) (l : Int) (e : Edge), IsT f M k ts l e → l + (k : Int) = M.n → 0 ≤ l → e.ok := by
  intro k
  induction k with
  | zero =>
    intro ts l e h hl h0
    obtain ⟨b, _, rfl⟩ := h
    exact endE_ok h0 (by have := hw.n16; simp at hl; omega)
  | succ k ih =>
    intro ts l e h hl h0
    push_cast at hl
    have hld := IsT.leads hw hf h (by push_cast; omega)
    obtain ⟨_, lo, hi, h1, _, hp⟩ := h
    have hlo := ih _ _ _ h1 (by omega) (by omega)
    obtain ⟨hpl, _⟩ := leads_iff.1 hld
    obtain ⟨p1, p2, p3, p4, p5, p6, p7, p8⟩ := plainB_iff.1 hpl
    have htag : 0 ≤ e.tag ∧ e.tag ≤ 255 := by
      by_cases hc : f ≠ 5 ∨ e.to = 0
      · have := p7 hc
        omega
      · have := p8 (Classical.not_not.1 (fun hh => hc (.inl hh))) (fun hh => hc (.inr hh))
        omega
    have hto : 0 ≤ e.to ∧ e.to ≤ 4294967295 := by
      rcases pair_cases hf hp with ⟨a, _⟩ | ⟨r, hr⟩
      · rw [a]
        exact hlo.2
      · have := look_some hr.here
        omega
    exact ⟨htag, hto⟩

theorem one_isT {f : Int} {M : St} (h : M.wf) (hf : 1 ≤ f ∧ f ≤ 5) (o z : Int) : IsT f M 0 (cubeT o z 0 M.n) M.n (oneE f M.n) ∧ rightK M f (oneE f M.n) M.n := by
  have e : oneE f M.n = endE f true M.n := by
    unfold oneE endE
    rw [if_pos rfl]
  rw [e]
  exact ⟨⟨true, rfl, rfl⟩, endE_rightK h⟩

end Go.Proofs.YtiacdpoldgfpbaaGreat
