/-
  Tables as parts of a block: without a 1, the same, halved (printed by wip/mk_terms.py).
-/
import Derived.Test.YtiacdpoldgfpbaaPReachB
import Derived.Laws.BytesArg
namespace Go.Proofs.Ytiacdpoldgfpbaa
set_option linter.unusedSimpArgs false
set_option linter.unusedVariables false
set_option maxHeartbeats 600000
open Go.RowKit

def TabAt (w : World) (B off : Nat) (ts : List Bool) : Prop := ∀ (i : Nat) (b : Bool), ts[i]? = some b → w.cell? ⟨B, off + i, none⟩ = some (.bool b)

theorem TabAt.keeps {w W : World} {B off : Nat} {ts : List Bool} (h : TabAt w B off ts) (hk : Keeps w W) : TabAt W B off ts := fun i b hb => hk.cell (h i b hb)

theorem TabAt.drop {w : World} {B off : Nat} {ts : List Bool} (h : TabAt w B off ts) (n : Nat) : TabAt w B (off + n) (ts.drop n) := fun i b hb => by
  rw [List.getElem?_drop] at hb
  have := h (n + i) b hb
  rwa [← Nat.add_assoc] at this

theorem TabAt.take {w : World} {B off : Nat} {ts : List Bool} (h : TabAt w B off ts) (n : Nat) : TabAt w B off (ts.take n) := fun i b hb => by
  rw [List.getElem?_take] at hb
  split at hb
  · exact h i b hb
  · cases hb

def sameL : List Bool → List Bool → Bool
  | [], [] => true
  | a :: s, b :: t => decide (a = b) && sameL s t
  | _, _ => false

theorem sameL_iff : ∀ {s t : List Bool}, sameL s t = true ↔ s = t
  | [], [] => by simp [sameL]
  | a :: s, b :: t => by simp [sameL, sameL_iff]
  | [], b :: t => by simp [sameL]
  | a :: s, [] => by simp [sameL]

theorem sameL_len {s t : List Bool} (h : s.length ≠ t.length) : sameL s t = false := by
  cases hs : sameL s t with
  | false => rfl
  | true => exact absurd (congrArg List.length (sameL_iff.1 hs)) h

theorem sameL_drop {s t : List Bool} {i : Nat} {a b : Bool} (ha : s[i]? = some a) (hb : t[i]? = some b) : sameL (s.drop i) (t.drop i) = (decide (a = b) && sameL (s.drop (i + 1)) (t.drop (i + 1))) := by
  obtain ⟨hi, ha⟩ := List.getElem?_eq_some_iff.1 ha
  obtain ⟨hj, hb⟩ := List.getElem?_eq_some_iff.1 hb
  rw [List.drop_eq_getElem_cons hi, List.drop_eq_getElem_cons hj, ha, hb]
  rfl

theorem same_calls {B B2 off off2 : Nat} {ss ts : List Bool} (cap cap2 : Nat) (w : World) (h1 : TabAt w B off ss) (h2 : TabAt w B2 off2 ts) (hl1 : ss.length ≤ 1048576) (hl2 : ts.length ≤ 1048576) :
    Calls Try.prog 19 #[.slice (some ⟨B, off, none⟩) ss.length cap, .slice (some ⟨B2, off2, none⟩) ts.length cap2] w fun e w' => e = .returned (.bool (sameL ss ts)) ∧ Keeps w w' := by
  by_cases hne : ss.length = ts.length
  · obtain ⟨N, hN⟩ : ∃ N, N = ss.length := ⟨_, rfl⟩
    have hM : N = ts.length := hN.trans hne
    rw [← hM, ← hN]
    rw [← hN] at hl1
    have H1 := Lib.hid h1
    have H2 := Lib.hid h2
    have HN := Lib.hid hN
    have HM := Lib.hid hM
    clear h1 h2 hN hM hne hl2
    go_enter Try.func19, Try.ntmps19
    go_wp2
    go_loopg [5] N (fun gk s5 wr => ∃ d : Nat, s5 = .int .i64 (d : Int) ∧ d + gk = N ∧ sameL (ss.drop d) (ts.drop d) = sameL ss ts ∧ Keeps w wr)
    case atStart => exact ⟨0, rfl, by omega, rfl, by (exact kp)⟩
    case round =>
      obtain ⟨d, rfl, hd, hn, hk⟩ := hrel
      have HNN := Lib.hid hn
      clear hn
      by_cases hlt : d < N
      · obtain ⟨a, ha⟩ : ∃ b, ss[d]? = some b := ⟨_, List.getElem?_eq_getElem (by rw [← HN.out]; exact hlt)⟩
        obtain ⟨b, hb⟩ : ∃ b, ts[d]? = some b := ⟨_, List.getElem?_eq_getElem (by rw [← HM.out]; exact hlt)⟩
        have c0 := hk.cell (H1.out d a ha)
        have c1 := hk.cell (H2.out d b hb)
        have hdr := sameL_drop ha hb
        have HD := Lib.hid hdr
        have i0 : (0 : Int) ≤ (d : Int) := by omega
        have i1 : (d : Int) < (N : Int) := by omega
        clear hdr ha hb
        cases a <;> cases b
        case false.false =>
          go_wp2_with fail
          go_quiet (fail)
          go_wp2
          go_roundg (gk - 1)
          case rel => exact ⟨d + 1, by simp, by omega, by rw [← HNN.out, HD.out]; rfl, by (exact kp)⟩
          case measure => omega
        case true.true =>
          go_wp2_with fail
          go_quiet (fail)
          go_wp2
          go_roundg (gk - 1)
          case rel => exact ⟨d + 1, by simp, by omega, by rw [← HNN.out, HD.out]; rfl, by (exact kp)⟩
          case measure => omega
        all_goals
          go_wp2_with fail
          go_quiet (fail)
          go_wp2
          go_ret
          exact ⟨by rw [← HNN.out, HD.out]; rfl, by (exact kp)⟩
      · have hg0 : d = N := by omega
        have hh : sameL ss ts = true := by rw [← HNN.out, List.drop_of_length_le (by rw [← HN.out]; omega), List.drop_of_length_le (by rw [← HM.out]; omega)]; rfl
        have HH := Lib.hid hh
        clear hg0 hh
        go_wp2_with fail
        go_ret
        exact ⟨by rw [HH.out]; rfl, hk⟩
  · have hf := sameL_len hne
    obtain ⟨N, hN⟩ : ∃ N, N = ss.length := ⟨_, rfl⟩
    obtain ⟨K, hK⟩ : ∃ K, K = ts.length := ⟨_, rfl⟩
    rw [hf]
    rw [← hN, ← hK] at hne ⊢
    have gne : ((N : Int) != (K : Int)) = true := by simp; omega
    clear h1 h2 hl1 hl2 hN hK hf hne
    go_enter Try.func19, Try.ntmps19
    go_wp2
    go_ret
    exact ⟨rfl, by (exact kp)⟩

end Go.Proofs.Ytiacdpoldgfpbaa
