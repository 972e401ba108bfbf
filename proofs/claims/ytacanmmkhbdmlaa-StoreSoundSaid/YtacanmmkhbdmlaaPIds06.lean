/-
  ramageref06.Same over rows of ids.
-/
import Derived.Test.YtacanmmkhbdmlaaPStore
import Derived.Deep.QuietTactic
import Derived.BigQuiet
namespace Go.Proofs.Ytacanmmkhbdmlaa
set_option linter.unusedSimpArgs false
set_option linter.unusedVariables false
set_option maxHeartbeats 600000
open Go.RowKit

/-- Ids as a part of a block. -/
def IdsAt (w : World) (B off : Nat) (ts : List Int) : Prop := ∀ (i : Nat) (b : Int), ts[i]? = some b → w.cell? ⟨B, off + i, none⟩ = some (.int .u32 b)

def sameI : List Int → List Int → Bool
  | [], [] => true
  | a :: s, b :: t => decide (a = b) && sameI s t
  | _, _ => false

theorem sameI_iff : ∀ {s t : List Int}, sameI s t = true ↔ s = t
  | [], [] => by simp [sameI]
  | a :: s, b :: t => by simp [sameI, sameI_iff]
  | [], b :: t => by simp [sameI]
  | a :: s, [] => by simp [sameI]

theorem sameI_len {s t : List Int} (h : s.length ≠ t.length) : sameI s t = false := by
  cases hs : sameI s t with
  | false => rfl
  | true => exact absurd (congrArg List.length (sameI_iff.1 hs)) h

theorem sameI_drop {s t : List Int} {i : Nat} {a b : Int} (ha : s[i]? = some a) (hb : t[i]? = some b) : sameI (s.drop i) (t.drop i) = (decide (a = b) && sameI (s.drop (i + 1)) (t.drop (i + 1))) := by
  obtain ⟨hi, ha⟩ := List.getElem?_eq_some_iff.1 ha
  obtain ⟨hj, hb⟩ := List.getElem?_eq_some_iff.1 hb
  rw [List.drop_eq_getElem_cons hi, List.drop_eq_getElem_cons hj, ha, hb]
  rfl

theorem same06_calls {B B2 off off2 : Nat} {ss ts : List Int} (cap cap2 : Nat) (w : World) (h1 : IdsAt w B off ss) (h2 : IdsAt w B2 off2 ts) (hl1 : ss.length ≤ 1048576) (hl2 : ts.length ≤ 1048576) :
    Calls Try.prog 47 #[.slice (some ⟨B, off, none⟩) ss.length cap, .slice (some ⟨B2, off2, none⟩) ts.length cap2] w fun e w' => e = .returned (.bool (sameI ss ts)) ∧ Keeps w w' := by
  by_cases hne : ss.length = ts.length
  · obtain ⟨N, hN⟩ : ∃ N, N = ss.length := ⟨_, rfl⟩
    have hM : N = ts.length := hN.trans hne
    rw [← hM, ← hN]
    rw [← hN] at hl1
    have H1 := Lib.hid h1
    have H2 := Lib.hid h2
    have HN := Lib.hid hN
    have HM := Lib.hid hM
    clear h1 h2 hN hM hne hl2
    go_enter Try.func47, Try.ntmps47
    go_wp2
    go_loopg [5] N (fun gk s5 wr => ∃ d : Nat, s5 = .int .i64 (d : Int) ∧ d + gk = N ∧ sameI (ss.drop d) (ts.drop d) = sameI ss ts ∧ Keeps w wr)
    case atStart => exact ⟨0, rfl, by omega, rfl, by (repeat (first | with_reducible exact Keeps.refl _ | with_reducible assumption | with_reducible refine Keeps.alloc ?_ _ | with_reducible refine Keeps.drewN ?_ _ | with_reducible refine Keeps.drew ?_ | refine Keeps.setCell ?_ (by dsimp only; omega) _ | with_reducible refine Keeps.trans ?_ (by assumption)))⟩
    case round =>
      obtain ⟨d, rfl, hd, hn, hk⟩ := hrel
      have HNN := Lib.hid hn
      clear hn
      by_cases hlt : d < N
      · obtain ⟨a, ha⟩ : ∃ b, ss[d]? = some b := ⟨_, List.getElem?_eq_getElem (by rw [← HN.out]; exact hlt)⟩
        obtain ⟨b, hb⟩ : ∃ b, ts[d]? = some b := ⟨_, List.getElem?_eq_getElem (by rw [← HM.out]; exact hlt)⟩
        have c0 := hk.cell (H1.out d a ha)
        have c1 := hk.cell (H2.out d b hb)
        have hdr := sameI_drop ha hb
        have HD := Lib.hid hdr
        have i0 : (0 : Int) ≤ (d : Int) := by omega
        have i1 : (d : Int) < (N : Int) := by omega
        clear hdr ha hb
        by_cases hab : a = b
        · subst hab
          go_wp2_with fail
          go_quiet (fail)
          go_wp2
          go_roundg (gk - 1)
          case rel => exact ⟨d + 1, by simp, by omega, by rw [← HNN.out, HD.out]; simp, by (repeat (first | with_reducible exact Keeps.refl _ | with_reducible assumption | with_reducible refine Keeps.alloc ?_ _ | with_reducible refine Keeps.drewN ?_ _ | with_reducible refine Keeps.drew ?_ | refine Keeps.setCell ?_ (by dsimp only; omega) _ | with_reducible refine Keeps.trans ?_ (by assumption)))⟩
          case measure => omega
        · have gab : (a != b) = true := by simp [hab]
          have hf : Hid (sameI ss ts = false) := Lib.hid (by rw [← HNN.out, HD.out]; simp [hab])
          go_wp2_with fail
          go_quiet (fail)
          go_wp2
          go_ret
          exact ⟨by rw [hf.out]; rfl, by (repeat (first | with_reducible exact Keeps.refl _ | with_reducible assumption | with_reducible refine Keeps.alloc ?_ _ | with_reducible refine Keeps.drewN ?_ _ | with_reducible refine Keeps.drew ?_ | refine Keeps.setCell ?_ (by dsimp only; omega) _ | with_reducible refine Keeps.trans ?_ (by assumption)))⟩
      · have hg0 : d = N := by omega
        have hh : sameI ss ts = true := by rw [← HNN.out, List.drop_of_length_le (by rw [← HN.out]; omega), List.drop_of_length_le (by rw [← HM.out]; omega)]; rfl
        have HH := Lib.hid hh
        clear hg0 hh
        go_wp2_with fail
        go_ret
        exact ⟨by rw [HH.out]; rfl, hk⟩
  · have hf := sameI_len hne
    obtain ⟨N, hN⟩ : ∃ N, N = ss.length := ⟨_, rfl⟩
    obtain ⟨K, hK⟩ : ∃ K, K = ts.length := ⟨_, rfl⟩
    rw [hf]
    rw [← hN, ← hK] at hne ⊢
    have gne : ((N : Int) != (K : Int)) = true := by simp; omega
    clear h1 h2 hl1 hl2 hN hK hf hne
    go_enter Try.func47, Try.ntmps47
    go_wp2
    go_ret
    exact ⟨rfl, by (repeat (first | with_reducible exact Keeps.refl _ | with_reducible assumption | with_reducible refine Keeps.alloc ?_ _ | with_reducible refine Keeps.drewN ?_ _ | with_reducible refine Keeps.drew ?_ | refine Keeps.setCell ?_ (by dsimp only; omega) _ | with_reducible refine Keeps.trans ?_ (by assumption)))⟩

end Go.Proofs.Ytacanmmkhbdmlaa
