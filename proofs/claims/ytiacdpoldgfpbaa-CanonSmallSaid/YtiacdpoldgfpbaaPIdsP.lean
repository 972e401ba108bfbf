/-
  The ids of all nodes, plainly.
-/
import Derived.Test.YtiacdpoldgfpbaaPIdsW
import Derived.Test.YtiacdpoldgfpbaaPStA
namespace Go.Proofs.Ytiacdpoldgfpbaa
set_option linter.unusedSimpArgs false
set_option linter.unusedVariables false
set_option maxHeartbeats 600000

theorem idsFrom_mem : ∀ (cs : List (Option Rec)) (i x : Int), x ∈ idsFrom i cs ↔ ∃ (k : Nat) (r : Rec), cs[k]? = some (some r) ∧ x = i + k := by
  intro cs
  induction cs with
  | nil => intro i x; simp [idsFrom]
  | cons c cs ih =>
    intro i x
    cases c with
    | none =>
      show x ∈ idsFrom (i + 1) cs ↔ _
      rw [ih]
      constructor
      · rintro ⟨k, r, h1, h2⟩; exact ⟨k + 1, r, by simpa using h1, by omega⟩
      · rintro ⟨k, r, h1, h2⟩
        cases k with
        | zero => simp at h1
        | succ k => exact ⟨k, r, by simpa using h1, by omega⟩
    | some q =>
      show x ∈ i :: idsFrom (i + 1) cs ↔ _
      rw [List.mem_cons, ih]
      constructor
      · rintro (h | ⟨k, r, h1, h2⟩)
        · exact ⟨0, q, rfl, by omega⟩
        · exact ⟨k + 1, r, by simpa using h1, by omega⟩
      · rintro ⟨k, r, h1, h2⟩
        cases k with
        | zero => left; omega
        | succ k => right; exact ⟨k, r, by simpa using h1, by omega⟩

theorem idsFrom_rising : ∀ (cs : List (Option Rec)) (i : Int), (idsFrom i cs).Pairwise (· < ·) := by
  intro cs
  induction cs with
  | nil => intro i; simp [idsFrom]
  | cons c cs ih =>
    intro i
    cases c with
    | none => exact ih (i + 1)
    | some q =>
      show (i :: idsFrom (i + 1) cs).Pairwise (· < ·)
      rw [List.pairwise_cons]
      refine ⟨fun x hx => ?_, ih (i + 1)⟩
      obtain ⟨k, r, _, h2⟩ := (idsFrom_mem cs (i + 1) x).1 hx
      omega

theorem idsL_mem {cs : List (Option Rec)} {x : Int} : x ∈ idsL cs ↔ look cs x ≠ none := by
  unfold idsL
  rw [idsFrom_mem]
  constructor
  · rintro ⟨k, r, h1, rfl⟩ h
    have := (look_get (cs := cs) (i := k) (r := r)).2 h1
    rw [show (2 : Int) + (k : Int) = (k : Int) + 2 by omega, this] at h
    cases h
  · intro h
    cases hl : look cs x with
    | none => exact absurd hl h
    | some r =>
      obtain ⟨h2, h3, h4⟩ := look_some hl
      exact ⟨(x - 2).toNat, r, h4, by omega⟩

theorem idsFrom_len : ∀ (cs : List (Option Rec)) (i : Int), (idsFrom i cs).length = (cs.filter Option.isSome).length := by
  intro cs
  induction cs with
  | nil => intro i; rfl
  | cons c cs ih =>
    intro i
    cases c with
    | none => exact ih (i + 1)
    | some q => show (idsFrom (i + 1) cs).length + 1 = _; rw [ih]; rfl

theorem nodup_len : ∀ {a b : List Int}, a.Nodup → (∀ x, x ∈ a → x ∈ b) → a.length ≤ b.length := by
  intro a
  induction a with
  | nil => intro b _ _; exact Nat.zero_le _
  | cons x a ih =>
    intro b hn hs
    have hx : x ∈ b := hs x (List.mem_cons_self)
    have hn2 := List.nodup_cons.1 hn
    have h1 := ih (b := b.erase x) hn2.2 (fun y hy => by
      have hne : y ≠ x := fun e => hn2.1 (e ▸ hy)
      exact (List.mem_erase_of_ne hne).2 (hs y (List.mem_cons_of_mem _ hy)))
    have h2 := List.length_erase_of_mem hx
    have h3 : 0 < b.length := List.length_pos_of_mem hx
    rw [List.length_cons]
    omega

theorem rising_nodup {a : List Int} (h : a.Pairwise (· < ·)) : a.Nodup := h.imp (fun hab e => by omega)

end Go.Proofs.Ytiacdpoldgfpbaa
