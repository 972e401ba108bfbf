/-
  How an arena lies in memory.
-/
import Derived.Test.YtimffidpbcflaaaWorld
namespace Go.Proofs.Ytimffidpbcflaaa
set_option linter.unusedSimpArgs false
set_option linter.unusedVariables false
set_option maxHeartbeats 600000
open Go.RowKit

/-- The record of an id. -/
def look (cs : List (Option Rec)) (id : Int) : Option Rec := if id < 2 then none else (cs[(id - 2).toNat]?).join

/-- An arena at block ab: its cells, the ids that went (the last one last), how many things, the room. -/
structure ArenaRep (F : Nat → Prop) (w : World) (ab : Nat) (cs : List (Option Rec)) (gone : List Int) (cnt room : Int) : Prop where
  lies : ∃ cv fv, w.heap[ab]? = some (.cells #[cv, fv, .int .i64 cnt, .int .i64 room] 131 (0, 0)) ∧
    w.ownsRow 0 123 9 cv cs.length (cs.flatMap cellVals) ∧ w.ownsRow 0 23 1 fv gone.length (gone.map (Value.int .u32)) ∧
    (∀ k, cv.ownBlock = some k → F k) ∧ (∀ k, fv.ownBlock = some k → F k)
  own : F ab
  few : cs.length ≤ 1048576
  sum : cnt + gone.length = cs.length
  cnt0 : 0 ≤ cnt
  top : room ≤ 1048576
  ids : ∀ id ∈ gone, 2 ≤ id ∧ id - 2 < (cs.length : Int)
  fit : ∀ r, some r ∈ cs → r.ok

theorem owns_type {w : World} {base : Nat} {e : TypeId} {size : Nat} {v : Value} {n : Nat} {xs : List Value} (h : w.ownsRow base e size v n xs) {k : Nat} (hk : v.ownBlock = some k) :
    ∃ cur, w.heap[k]? = some (.cells cur e (0, 0)) := by
  rcases h.2 with ⟨rfl, _⟩ | ⟨g, cap, cur, rfl, _, hg, _⟩
  · simp [Value.ownBlock] at hk
  · simp [Value.ownBlock] at hk
    subst hk
    exact ⟨cur, hg⟩

theorem ne_of_type {w : World} {a b : Nat} {x y : Array Value} {s t : TypeId} {p q : Nat × Nat} (ha : w.heap[a]? = some (.cells x s p)) (hb : w.heap[b]? = some (.cells y t q)) (hne : s ≠ t) : a ≠ b := by
  intro e
  subst e
  rw [ha] at hb
  simp at hb
  exact hne hb.2.1

/-- An arena stays while none of its blocks turns. -/
theorem ArenaRep.keep {F G : Nat → Prop} {w W : World} {ab : Nat} {cs : List (Option Rec)} {gone : List Int} {cnt room : Int} (h : ArenaRep F w ab cs gone cnt room) (hu : Upd G w W) (hd : ∀ k, F k → ¬ G k) :
    ArenaRep F W ab cs gone cnt room := by
  obtain ⟨⟨cv, fv, h1, h2, h3, h4, h5⟩, a2, a3, a4, a5, a6, a7, a8⟩ := h
  exact ⟨⟨cv, fv, (hu.block ab (lt_of_heap h1) (hd _ a2)).trans h1, hu.owns (fun k hk => hd _ (h4 k hk)) h2, hu.owns (fun k hk => hd _ (h5 k hk)) h3, h4, h5⟩, a2, a3, a4, a5, a6, a7, a8⟩

theorem ArenaRep.keeps {F : Nat → Prop} {w W : World} {ab : Nat} {cs : List (Option Rec)} {gone : List Int} {cnt room : Int} (h : ArenaRep F w ab cs gone cnt room) (hu : Keeps w W) : ArenaRep F W ab cs gone cnt room :=
  h.keep (hu.upd (fun _ => False)) (fun _ _ h => h)

theorem look_some {cs : List (Option Rec)} {id : Int} {r : Rec} (h : look cs id = some r) : 2 ≤ id ∧ id - 2 < (cs.length : Int) ∧ cs[(id - 2).toNat]? = some (some r) := by
  unfold look at h
  split at h
  · cases h
  · rename_i h2
    have h3 : cs[(id - 2).toNat]? = some (some r) := by
      cases hc : cs[(id - 2).toNat]? with
      | none => simp [hc] at h
      | some x => rw [hc] at h; simp at h; rw [h]
    have := (List.getElem?_eq_some_iff.1 h3).1
    exact ⟨by omega, by omega, h3⟩

theorem look_none {cs : List (Option Rec)} {id : Int} (h : look cs id = none) : id < 2 ∨ (2 ≤ id ∧ (cs.length : Int) ≤ id - 2) ∨ (2 ≤ id ∧ id - 2 < (cs.length : Int) ∧ cs[(id - 2).toNat]? = some none) := by
  unfold look at h
  split at h
  · exact .inl (by assumption)
  · rename_i h2
    by_cases hl : id - 2 < (cs.length : Int)
    · right; right
      refine ⟨by omega, hl, ?_⟩
      have hlt : (id - 2).toNat < cs.length := by omega
      rw [List.getElem?_eq_getElem hlt] at h ⊢
      simp at h
      rw [h]
    · exact .inr (.inl ⟨by omega, by omega⟩)

/-- A value of a cell. -/
theorem ArenaRep.cell {F : Nat → Prop} {w : World} {ab : Nat} {cs : List (Option Rec)} {gone : List Int} {cnt room : Int} (h : ArenaRep F w ab cs gone cnt room) :
    ∃ a cap, w.cell? ⟨ab, 0, none⟩ = some (.slice a cs.length cap) ∧ (cs.length ≠ 0 → ∃ cb, a = some ⟨cb, 0, none⟩ ∧ cb ≠ ab ∧ F cb ∧
      (∀ i c, cs[i]? = some c → ∀ j, j < 9 → w.cell? ⟨cb, i * 9 + j, none⟩ = (cellVals c)[j]?) ∧ ∀ j, w.frozen? ⟨cb, j, none⟩ = false) := by
  obtain ⟨⟨cv, fv, h1, h2, h3, h4, h5⟩, a2, a3, a4, a5, a6, a7, a8⟩ := h
  obtain ⟨a, cap, rfl, hs⟩ := owns_slice h2
  refine ⟨a, cap, by rw [cell_of_row w ab 0 _ _ _ h1]; rfl, fun hn => ?_⟩
  obtain ⟨cb, rfl⟩ := hs hn
  obtain ⟨cur, hcur⟩ := owns_type h2 (k := cb) rfl
  refine ⟨cb, rfl, ne_of_type hcur h1 (by decide), h4 cb rfl, fun i c hc j hj => ?_, fun j => h2.frozenAt j⟩
  have hi := (List.getElem?_eq_some_iff.1 hc).1
  rw [h2.cellAt (i * 9 + j) (by omega)]
  exact flat_get cellVals 9 cellVals_length cs i j c hc hj

/-- A box of seven values, behind whatever keeps it. -/
theorem box7 {w w1 : World} {a b c d e f g : Value} {t : TypeId} (h : Keeps (w.alloc (.cells #[a, b, c, d, e, f, g] t)) w1) :
    w1.cell? ⟨w.heap.size, 0, none⟩ = some a ∧ w1.cell? ⟨w.heap.size, 1, none⟩ = some b ∧ w1.cell? ⟨w.heap.size, 2, none⟩ = some c ∧ w1.cell? ⟨w.heap.size, 3, none⟩ = some d ∧
      w1.cell? ⟨w.heap.size, 4, none⟩ = some e ∧ w1.cell? ⟨w.heap.size, 5, none⟩ = some f ∧ w1.cell? ⟨w.heap.size, 6, none⟩ = some g :=
  ⟨h.cell (by simp), h.cell (by simp), h.cell (by simp), h.cell (by simp), h.cell (by simp), h.cell (by simp), h.cell (by simp)⟩

theorem box7d {w w1 : World} {a b c d e f g : Value} {t : TypeId} (h : Keeps (w.alloc (.cells #[a, b, c, d, e, f, g] t)).drew w1) :
    w1.cell? ⟨w.heap.size, 0, none⟩ = some a ∧ w1.cell? ⟨w.heap.size, 1, none⟩ = some b ∧ w1.cell? ⟨w.heap.size, 2, none⟩ = some c ∧ w1.cell? ⟨w.heap.size, 3, none⟩ = some d ∧
      w1.cell? ⟨w.heap.size, 4, none⟩ = some e ∧ w1.cell? ⟨w.heap.size, 5, none⟩ = some f ∧ w1.cell? ⟨w.heap.size, 6, none⟩ = some g := box7 (((Keeps.refl _).drew).trans h)

theorem Keeps.cell7 {w w1 : World} (h : Keeps w w1) {k : Nat} {a b c d e f g : Value}
    (hb : w.cell? ⟨k, 0, none⟩ = some a ∧ w.cell? ⟨k, 1, none⟩ = some b ∧ w.cell? ⟨k, 2, none⟩ = some c ∧ w.cell? ⟨k, 3, none⟩ = some d ∧ w.cell? ⟨k, 4, none⟩ = some e ∧ w.cell? ⟨k, 5, none⟩ = some f ∧ w.cell? ⟨k, 6, none⟩ = some g) :
    w1.cell? ⟨k, 0, none⟩ = some a ∧ w1.cell? ⟨k, 1, none⟩ = some b ∧ w1.cell? ⟨k, 2, none⟩ = some c ∧ w1.cell? ⟨k, 3, none⟩ = some d ∧ w1.cell? ⟨k, 4, none⟩ = some e ∧ w1.cell? ⟨k, 5, none⟩ = some f ∧ w1.cell? ⟨k, 6, none⟩ = some g := by
  obtain ⟨h0, h1, h2, h3, h4, h5, h6⟩ := hb
  exact ⟨h.cell h0, h.cell h1, h.cell h2, h.cell h3, h.cell h4, h.cell h5, h.cell h6⟩

end Go.Proofs.Ytimffidpbcflaaa
