/-
  Arguments that came in, opened; and read again behind a call below which nothing has turned.
-/
import Derived.Test.YtiacdpoldgfpbaaGreatPCube
import Derived.Test.YtiacdpoldgfpbaaGreatPViewTxD
namespace Go.Proofs.YtiacdpoldgfpbaaGreat
set_option linter.unusedSimpArgs false
set_option linter.unusedVariables false
set_option maxHeartbeats 600000
open Go.ChangeShapes Go.WideShapes Go.ChangeAt Go.RowKit Go.Joins Go.Deep

theorem wf_u8 {n : Int} (h : (Lit.int .u8 n).wf = true) : 0 ≤ n ∧ n ≤ 255 := by
  unfold Lit.wf at h
  simp only [Bool.and_eq_true, decide_eq_true_eq] at h
  exact h

def IsStructs {α : Type} (k : Nat) (Q : α → List Value → Prop) (w : World) (a : Option Addr) (len : Nat) (rs : List α) : Prop :=
  rs.length = len ∧ ∀ i r, rs[i]? = some r → ∃ b off cs, a = some ⟨b, off, none⟩ ∧ Q r cs ∧ ∀ j, j < k → w.cell? ⟨b, off + i * k + j, none⟩ = cs[j]?

theorem open_structs {H : Type} {enc : TypeId × Value → H} {P : Program} {W : World} {base : Nat} {spare : Nat → Bool} {held : Bool} {t e : TypeId} {k : Nat} {α : Type} [Inhabited α] (Q : α → List Value → Prop)
    (ht : P.underlying t = some (.slice e)) (hk : P.cellsOf e = k) (hk0 : 0 < k)
    (hQ : ∀ n cs x, DataW.trod enc P W base spare held n e cs = some x → cs.length = k ∧ ∃ r, Q r cs)
    {a : Option Addr} {len cap : Nat} {d : DataW H} {p : List MemPlace} (h : DataW.Trod enc P W base spare held t (.slice a len cap) d p) : ∃ rs : List α, IsStructs k Q W a len rs := by
  obtain ⟨fuel, hf⟩ := h
  rcases open_slice ht hf with ⟨hcs, _⟩ | ⟨x, l, c, m, n, D, Pl, hcs, _, hl, _, hm, _, hi⟩
  · simp [Value.cells] at hcs
    obtain ⟨rfl, rfl, rfl⟩ := hcs
    exact ⟨[], rfl, fun i r hr => by simp at hr⟩
  · simp [Value.cells] at hcs
    obtain ⟨rfl, rfl, rfl⟩ := hcs
    have hlm : len ≤ m := by rw [hm]; split <;> omega
    have h1 : ∀ i, i < len → ∃ r : α, ∃ b off cs, x = ⟨b, off, none⟩ ∧ Q r cs ∧ ∀ j, j < k → W.cell? ⟨b, off + i * k + j, none⟩ = cs[j]? := by
      intro i hil
      obtain ⟨cs, hc, ht'⟩ := hi i (by omega)
      obtain ⟨hlen, r, hr⟩ := hQ _ _ _ ht'
      rw [hk] at hc
      obtain ⟨_, _, hat⟩ := World.cells?_some hc
      obtain ⟨b, off, spot⟩ := x
      have h0 := hat 0 hk0
      rw [List.getElem?_eq_getElem (by omega)] at h0
      have hspot : spot = none := by
        by_cases hz : i * k = 0
        · have h00 := h0
          rw [hz] at h00
          simpa [Addr.add] using World.cell?_spot h00
        · have h00 := hi 0 (by omega)
          obtain ⟨cs0, hc0, ht0⟩ := h00
          rw [hk] at hc0
          have h01 := (World.cells?_some hc0).2.2 0 hk0
          rw [List.getElem?_eq_getElem (by rw [(hQ _ _ _ ht0).1]; exact hk0)] at h01
          simpa [Addr.add] using World.cell?_spot h01
      subst hspot
      refine ⟨r, b, off, cs, rfl, hr, fun j hj => ?_⟩
      have := hat j hj
      rw [add_add, Addr.add] at this
      split at this
      · rename_i he
        rw [show off + i * k + j = off by omega]
        exact this
      · rw [show off + i * k + j = off + (i * k + j) by omega]
        exact this
    obtain ⟨f, hf'⟩ := choose_lt h1
    refine ⟨(List.range len).map f, by simp, fun i r hr => ?_⟩
    rw [List.getElem?_map, Option.map_eq_some_iff] at hr
    obtain ⟨i', hi', rfl⟩ := hr
    rw [List.getElem?_eq_some_iff] at hi'
    obtain ⟨hil, rfl⟩ := hi'
    simp only [List.length_range] at hil
    simp only [List.getElem_range]
    obtain ⟨b, off, cs, rfl, hq, hc⟩ := hf' i hil
    exact ⟨b, off, cs, rfl, hq, hc⟩

end Go.Proofs.YtiacdpoldgfpbaaGreat
