/-
  ramageref16.free over tables; the levels that play no part, those that are 0.
-/
import Derived.Test.YtacanmmkhbdmlaaPUnfBase
namespace Go.Proofs.Ytacanmmkhbdmlaa
set_option linter.unusedSimpArgs false
set_option linter.unusedVariables false
set_option maxHeartbeats 600000
open Go.RowKit

/-- Does the first level of a table play no part? -/
def freeB : Nat → List Bool → Bool
  | 0, _ => false
  | k + 1, ts => sameL (ts.take (2 ^ k)) (ts.drop (2 ^ k))

theorem same_halves {B off : Nat} {ts : List Bool} (p cap : Nat) (w : World) (hp1 : 1 ≤ p) (hp2 : p ≤ 4096) (h : TabAt w B off ts) (hl : ts.length = 2 * p) :
    Calls Try.prog 36 #[.slice (some ⟨B, off, none⟩) p cap, .slice (some ⟨B, off + p, none⟩) p (cap - p)] w fun e w' => e = .returned (.bool (sameL (ts.take p) (ts.drop p))) ∧ Keeps w w' := by
  have llo : (ts.take p).length = p := by rw [List.length_take]; omega
  have lhi : (ts.drop p).length = p := by rw [List.length_drop]; omega
  have := same_calls cap (cap - p) w (h.take p) (h.drop p) (by omega) (by omega)
  rw [llo, lhi] at this
  exact this

theorem free16_calls {B off : Nat} (k : Nat) (ts : List Bool) (cap : Nat) (w : World) (hk : k ≤ 10) (h : TabAt w B off ts) (hl : ts.length = 2 ^ k) (hcap : 2 ^ k ≤ cap) (hcap2 : cap ≤ 4096) :
    Calls Try.prog 64 #[.slice (some ⟨B, off, none⟩) (2 ^ k) cap] w fun e w' => e = .returned (.bool (freeB k ts)) ∧ Keeps w w' := by
  cases k with
  | zero =>
    show Calls _ _ #[.slice (some ⟨B, off, none⟩) 1 cap] w fun e w' => e = .returned (.bool false) ∧ Keeps w w'
    clear h hl hcap
    go_enter Try.func64, Try.ntmps64
    go_wp2
    go_ret
    exact ⟨rfl, by (repeat (first | with_reducible exact Keeps.refl _ | with_reducible assumption | with_reducible refine Keeps.alloc ?_ _ | with_reducible refine Keeps.drewN ?_ _ | with_reducible refine Keeps.drew ?_ | refine Keeps.setCell ?_ (by dsimp only; omega) _ | with_reducible refine Keeps.trans ?_ (by assumption)))⟩
  | succ k =>
    have e2 : 2 ^ (k + 1) = 2 * 2 ^ k := by rw [Nat.pow_succ]; omega
    have hp1 : 1 ≤ 2 ^ k := Nat.pow_pos (by decide)
    rw [e2] at hl hcap ⊢
    show Calls _ _ _ w fun e w' => e = .returned (.bool (sameL (ts.take (2 ^ k)) (ts.drop (2 ^ k)))) ∧ Keeps w w'
    obtain ⟨p, hp⟩ : ∃ p, p = 2 ^ k := ⟨_, rfl⟩
    rw [← hp] at hl hcap hp1 ⊢
    have HS := Lib.hid (fun (W : World) (hW : Keeps w W) => same_halves p cap W hp1 (by omega) (h.keeps hW) hl)
    have HH := Lib.hid (fun (W : World) => halves16_calls (B := B) (off := off) p cap W hp1 hcap (by omega))
    clear h hl hp e2 hcap
    go_enter Try.func64, Try.ntmps64
    go_wp2_with (first | (go_at_call 63; refine (HH.out _).mono ?_; rintro e1 w2 ⟨rfl, hk2⟩) | (go_at_call 36; refine (HS.out _ (by (repeat (first | with_reducible exact Keeps.refl _ | with_reducible assumption | with_reducible refine Keeps.alloc ?_ _ | with_reducible refine Keeps.drewN ?_ _ | with_reducible refine Keeps.drew ?_ | refine Keeps.setCell ?_ (by dsimp only; omega) _ | with_reducible refine Keeps.trans ?_ (by assumption))))).mono ?_; rintro e2 w3 ⟨rfl, hk3⟩) | fail)
    go_ret
    exact ⟨rfl, by (repeat (first | with_reducible exact Keeps.refl _ | with_reducible assumption | with_reducible refine Keeps.alloc ?_ _ | with_reducible refine Keeps.drewN ?_ _ | with_reducible refine Keeps.drew ?_ | refine Keeps.setCell ?_ (by dsimp only; omega) _ | with_reducible refine Keeps.trans ?_ (by assumption)))⟩

/-- Behind the levels that play no part: how many levels are left, and their table. -/
def stripS : Nat → List Bool → Nat × List Bool
  | 0, ts => (0, ts)
  | k + 1, ts => if sameL (ts.take (2 ^ k)) (ts.drop (2 ^ k)) then stripS k (ts.take (2 ^ k)) else (k + 1, ts)

/-- Behind the levels that are 0. -/
def stripZ : Nat → List Bool → Nat × List Bool
  | 0, ts => (0, ts)
  | k + 1, ts => if noneL (ts.drop (2 ^ k)) && !freeB k (ts.take (2 ^ k)) then stripZ k (ts.take (2 ^ k)) else (k + 1, ts)

theorem stripS_le : ∀ (k : Nat) (ts : List Bool), (stripS k ts).1 ≤ k := by
  intro k
  induction k with
  | zero => intro ts; exact Nat.le_refl 0
  | succ k ih =>
    intro ts
    unfold stripS
    split
    · exact Nat.le_succ_of_le (ih _)
    · exact Nat.le_refl _

theorem stripZ_le : ∀ (k : Nat) (ts : List Bool), (stripZ k ts).1 ≤ k := by
  intro k
  induction k with
  | zero => intro ts; exact Nat.le_refl 0
  | succ k ih =>
    intro ts
    unfold stripZ
    split
    · exact Nat.le_succ_of_le (ih _)
    · exact Nat.le_refl _

theorem stripS_tab {w : World} {B off : Nat} : ∀ (k : Nat) (ts : List Bool), TabAt w B off ts → ts.length = 2 ^ k → TabAt w B off (stripS k ts).2 ∧ (stripS k ts).2.length = 2 ^ (stripS k ts).1 := by
  intro k
  induction k with
  | zero => intro ts h hl; exact ⟨h, hl⟩
  | succ k ih =>
    intro ts h hl
    unfold stripS
    split
    · exact ih _ (h.take _) (by rw [List.length_take, hl, Nat.pow_succ]; omega)
    · exact ⟨h, hl⟩

theorem stripZ_tab {w : World} {B off : Nat} : ∀ (k : Nat) (ts : List Bool), TabAt w B off ts → ts.length = 2 ^ k → TabAt w B off (stripZ k ts).2 ∧ (stripZ k ts).2.length = 2 ^ (stripZ k ts).1 := by
  intro k
  induction k with
  | zero => intro ts h hl; exact ⟨h, hl⟩
  | succ k ih =>
    intro ts h hl
    unfold stripZ
    split
    · exact ih _ (h.take _) (by rw [List.length_take, hl, Nat.pow_succ]; omega)
    · exact ⟨h, hl⟩

/-- The chapter's words as a text (form 5). -/
def termT : Nat → Nat → List Bool → Int → ByteArray
  | 0, _, _, _ => ⟨#[48]⟩
  | n + 1, k, ts, l =>
    if noneL ts then ⟨#[48]⟩ else
    match stripZ (stripS k ts).1 (stripS k ts).2 with
    | (0, _) => digS (l + (k - (stripS k ts).1 : Nat)) ++ ⟨#[64]⟩ ++ ⟨#[49]⟩
    | (c + 1, t) => digS (l + (k - (stripS k ts).1 : Nat)) ++ ⟨#[64]⟩ ++ ⟨#[40]⟩ ++ digS (l + (k - (c + 1) : Nat)) ++ ⟨#[32]⟩ ++ termT n c (t.take (2 ^ c)) (l + (k - c : Nat)) ++ ⟨#[32]⟩ ++ termT n c (t.drop (2 ^ c)) (l + (k - c : Nat)) ++ ⟨#[41]⟩

theorem termT_size : ∀ (n k : Nat) (ts : List Bool) (l : Int), (termT n k ts l).size + 7 ≤ 8 * 2 ^ n := by
  intro n
  induction n with
  | zero => intro k ts l; exact Nat.le_refl 8
  | succ n ih =>
    intro k ts l
    have hp : 0 < 2 ^ n := Nat.pow_pos (by decide)
    have e2 : 2 ^ (n + 1) = 2 * 2 ^ n := by rw [Nat.pow_succ]; omega
    rw [e2]
    unfold termT
    split
    · show 1 + 7 ≤ _; omega
    · split
      · simp only [ByteArray.size_append, digS_size]; show 1 + 1 + 1 + 7 ≤ _; omega
      · rename_i c t _
        have h1 := ih c (t.take (2 ^ c)) (l + (k - c : Nat))
        have h2 := ih c (t.drop (2 ^ c)) (l + (k - c : Nat))
        simp only [ByteArray.size_append, digS_size]
        show 1 + 1 + 1 + 1 + 1 + _ + 1 + _ + 1 + 7 ≤ _
        omega

theorem termT_eq {n k a c : Nat} {ts t1 t2 : List Bool} {l : Int} (hn : noneL ts = false) (ha : a = (stripS k ts).1) (h1 : t1 = (stripS k ts).2) (h2 : stripZ a t1 = (c + 1, t2)) :
    termT (n + 1) k ts l = digS (l + (k - a : Nat)) ++ ⟨#[64]⟩ ++ ⟨#[40]⟩ ++ digS (l + (k - (c + 1) : Nat)) ++ ⟨#[32]⟩ ++ termT n c (t2.take (2 ^ c)) (l + (k - c : Nat)) ++ ⟨#[32]⟩ ++ termT n c (t2.drop (2 ^ c)) (l + (k - c : Nat)) ++ ⟨#[41]⟩ := by
  show (if noneL ts = true then _ else match stripZ (stripS k ts).1 (stripS k ts).2 with | (0, _) => _ | (c + 1, t) => _) = _
  rw [if_neg (by rw [hn]; decide), ← ha, ← h1, h2]

theorem termT_eq0 {n k a : Nat} {ts t1 t2 : List Bool} {l : Int} (hn : noneL ts = false) (ha : a = (stripS k ts).1) (h1 : t1 = (stripS k ts).2) (h2 : stripZ a t1 = (0, t2)) :
    termT (n + 1) k ts l = digS (l + (k - a : Nat)) ++ ⟨#[64]⟩ ++ ⟨#[49]⟩ := by
  show (if noneL ts = true then _ else match stripZ (stripS k ts).1 (stripS k ts).2 with | (0, _) => _ | (c + 1, t) => _) = _
  rw [if_neg (by rw [hn]; decide), ← ha, ← h1, h2]

end Go.Proofs.Ytacanmmkhbdmlaa
