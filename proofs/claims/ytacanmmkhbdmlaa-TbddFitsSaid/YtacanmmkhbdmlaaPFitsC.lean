/-
  Plainly: room for just the nodes of the term.
-/
import Derived.Test.YtacanmmkhbdmlaaPFitsP
import Derived.Test.YtacanmmkhbdmlaaPPartsC
import Derived.Test.YtacanmmkhbdmlaaPSwTerm
import Derived.Test.YtacanmmkhbdmlaaPTwoA
namespace Go.Proofs.Ytacanmmkhbdmlaa
set_option linter.unusedSimpArgs false
set_option linter.unusedVariables false
set_option maxHeartbeats 600000
open Go.RowKit

/-- An edge that was made: no negative id; and so with all that it reaches. -/
theorem made_to {N : St} {bs : List Bool} : ∀ (k off : Nat) (l : Int) (e : Edge), IsMade 5 N bs k off l e → 0 ≤ e.to ∧ ∀ id r, Reaches N.cs [e.to] id → look N.cs id = some r → 0 ≤ r.lo.to ∧ 0 ≤ r.hi.to := by
  intro k
  induction k with
  | zero =>
    intro off l e h
    obtain ⟨b, _, rfl⟩ := h
    have h2 : 0 ≤ (endE 5 b l).to ∧ (endE 5 b l).to < 2 := by
      cases b
      · exact ⟨by show (0 : Int) ≤ 0; omega, by show (0 : Int) < 2; omega⟩
      · exact ⟨by show (0 : Int) ≤ 1; omega, by show (1 : Int) < 2; omega⟩
    exact ⟨h2.1, fun id r hr => (reaches_low h2.2 hr).elim⟩
  | succ k ih =>
    intro off l e h
    obtain ⟨lo, hi, h1, h2, h3⟩ := h
    obtain ⟨a1, a2⟩ := ih _ _ _ h1
    obtain ⟨b1, b2⟩ := ih _ _ _ h2
    have hu := h3.up
    rw [mk5] at hu
    unfold tAct at hu
    split at hu
    · rcases hu with hu | ⟨r, hu, _⟩ <;> cases hu
    · split at hu
      · rcases hu with hu | ⟨r, hu, _⟩ <;> cases hu
      · split at hu
        · rcases hu with hu | ⟨r, hu, _⟩
          · cases hu
            exact ⟨a1, a2⟩
          · cases hu
        · split at hu
          · rcases hu with hu | ⟨r, hu, _⟩
            · cases hu
              exact ⟨a1, a2⟩
            · cases hu
          · rcases hu with hu | ⟨r, hu, hl, _⟩
            · cases hu
            · cases hu
              refine ⟨by have := (look_some hl).1; omega, fun id q hr hq => ?_⟩
              have key := hr (fun y => y = e.to ∨ Reaches N.cs [lo.to] y ∨ Reaches N.cs [hi.to] y) (fun y hy _ => by rw [List.mem_singleton] at hy; exact .inl hy) (fun y s hy hly => by
                rcases hy with rfl | hy | hy
                · rw [hl] at hly
                  cases hly
                  exact ⟨fun hc => .inr (.inl (Reaches.root (by simp) hc)), fun hc => .inr (.inr (Reaches.root (by simp) hc))⟩
                · have c := Reaches.closed N.cs [lo.to] y s hy hly
                  exact ⟨fun hc => .inr (.inl (c.1 hc)), fun hc => .inr (.inl (c.2 hc))⟩
                · have c := Reaches.closed N.cs [hi.to] y s hy hly
                  exact ⟨fun hc => .inr (.inr (c.1 hc)), fun hc => .inr (.inr (c.2 hc))⟩)
              rcases key with rfl | hy | hy
              · rw [hl] at hq
                cases hq
                exact ⟨a1, b1⟩
              · exact a2 id q hy hq
              · exact b2 id q hy hq

theorem packed_len {M : St} (h : Packed M) : ((idsL M.cs).length : Int) = M.len := by
  unfold idsL St.len
  rw [idsFrom_len, h.1, List.filter_eq_self.2 (fun o ho => by cases o with | none => exact absurd rfl (h.2 _ ho) | some r => rfl)]
  simp

theorem packed_new (n room : Int) : Packed (St.new n room) := ⟨rfl, fun o ho => by cases ho⟩

/-- All ids of what was made in an empty store are reached. -/
theorem fresh_new {n room : Int} {N : St} {e : Edge} (hw : N.wf) (h : Fresh (St.new n room) N e) : reachL N.cs [e.to] = idsL N.cs := by
  refine rising_eq (reachL_rising _ _) (idsFrom_rising N.cs 2) (fun x => ?_)
  show _ ↔ x ∈ idsL N.cs
  rw [mem_reachL, idsL_mem]
  refine ⟨fun hr => hr.some, fun hx => ?_⟩
  rcases h x hx with q | q
  · exact absurd (look_nil x) q
  · exact q

/-- The text of what was made in an empty store has as many nodes as the store. -/
theorem fits_count {k : Nat} {room : Int} {bs : List Bool} {N : St} {e : Edge} (hk : k ≤ 6) (hb : bs.length = 2 ^ k) (hw : N.wf) (hE : Ext (St.new (k : Int) room) N) (hp : Packed N) (hm : IsMade 5 N bs k 0 0 e) (hf : Fresh (St.new (k : Int) room) N e) :
    unfS 5 N (k + 1) e = termT (k + 1) k bs 0 ∧ ((partsTo (termT (k + 1) k bs 0) (termT (k + 1) k bs 0).size).length : Int) = N.len := by
  have hn : N.n = (k : Int) := hE.n
  have t1 := IsMade.table (.inr (.inr rfl)) _ _ _ _ hm
  rw [List.drop_zero, List.take_of_length_le (by omega)] at t1
  have hnk : (0 : Int) + (k : Nat) = N.n := by omega
  have htx := two5 hw k _ 0 _ t1 hnk (by omega) k k (Nat.le_refl _) (Nat.le_refl _)
  obtain ⟨m1, m2⟩ := made_to _ _ _ _ hm
  have hrl := fresh_new hw hf
  have hF : Fine 5 N := ⟨hw, fun id r hl => m2 id r (mem_reachL.1 (by rw [hrl, idsL_mem, hl]; simp)) hl, by omega⟩
  have hat : At 5 N e 0 (k + 1) := ⟨t1.leads hw (by omega) hnk, m1, by push_cast; omega⟩
  have hc := parts_count hF (k + 1) e 0 hat
  rw [htx, hrl] at hc
  refine ⟨htx, ?_⟩
  rw [hc]
  exact packed_len hp

end Go.Proofs.Ytacanmmkhbdmlaa
