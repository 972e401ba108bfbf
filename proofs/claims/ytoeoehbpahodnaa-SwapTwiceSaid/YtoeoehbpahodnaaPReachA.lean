/-
  The walk of the closure in store.reached: what a visit of an edge's node makes of the map.
-/
import Derived.Test.YtoeoehbpahodnaaPPermX
import Derived.Test.YtoeoehbpahodnaaPSortC
import Derived.Maps.RangeWalk
import Derived.Maps.OwnOps
import Derived.Laws.EntriesVeiled
namespace Go.Proofs.Ytoeoehbpahodnaa
set_option linter.unusedSimpArgs false
set_option linter.unusedVariables false
set_option maxHeartbeats 600000
open Go.RowKit

def marksD (S : List Int) : DataW Unit := Maps.setOf (.lit (.int .i64 1)) (S.map (Lit.int .u32))

theorem marks_keys (S : List Int) : ∀ x ∈ S.map (Lit.int .u32), WideAt.IsKeyLit x := by
  intro x hx
  obtain ⟨y, _, rfl⟩ := List.mem_map.1 hx
  trivial

theorem marksD_has (S : List Int) (x : Int) : Maps.has (marksD S) (.int .u32 x) = true ↔ x ∈ S := by
  unfold marksD
  rw [Maps.has_setOf _ _ _ (marks_keys S), List.any_eq_true]
  constructor
  · rintro ⟨y, hy, hs⟩
    obtain ⟨z, hz, rfl⟩ := List.mem_map.1 hy
    have := WideAt.sameKey_eq hs
    cases this
    exact hz
  · intro h
    exact ⟨_, List.mem_map.2 ⟨x, h, rfl⟩, WideAt.sameKey_self trivial⟩

theorem Keeps.none {w w' : World} (h : Keeps w w') : w.grownBy w' none := ⟨h.os, h.tape, h.output, h.size, fun i hi _ => h.block i hi⟩

theorem Upd.of_grown {b : Nat} {w w' : World} (h : w.grownBy w' (some b)) : Upd (fun k => k = b) w w' := ⟨h.os, h.tape, h.output, h.size, fun i hi hne => h.block i hi (fun e => hne (by cases e; rfl))⟩

theorem Upd.cellAt {F : Nat → Prop} {w w' : World} (h : Upd F w w') {b o : Nat} {v : Value} (hb : ¬ F b) (hc : w.cell? ⟨b, o, none⟩ = some v) : w'.cell? ⟨b, o, none⟩ = some v := by
  have := h.block b (lt_of_cell (a := ⟨b, o, none⟩) hc) hb
  rw [← hc]
  simp only [World.cell?, this]

end Go.Proofs.Ytoeoehbpahodnaa

namespace Go.Proofs.Ytoeoehbpahodnaa
set_option linter.unusedSimpArgs false
set_option linter.unusedVariables false
set_option maxHeartbeats 600000
open Go.RowKit

def IsEdges (w : World) (a : Option Addr) (len : Nat) (es : List Edge) : Prop :=
  es.length = len ∧ ∀ i e, es[i]? = some e → e.ok ∧ ∃ b off, a = some ⟨b, off, none⟩ ∧ w.cell? ⟨b, off + i * 2, none⟩ = some (.int .u8 e.tag) ∧ w.cell? ⟨b, off + i * 2 + 1, none⟩ = some (.int .u32 e.to)

theorem IsEdges.keeps {w W : World} {a : Option Addr} {len : Nat} {es : List Edge} (h : IsEdges w a len es) (hk : Keeps w W) : IsEdges W a len es :=
  ⟨h.1, fun i e he => by obtain ⟨h1, b, off, h2, h3, h4⟩ := h.2 i e he; exact ⟨h1, b, off, h2, hk.cell h3, hk.cell h4⟩⟩

end Go.Proofs.Ytoeoehbpahodnaa

namespace Go.Proofs.Ytoeoehbpahodnaa
set_option linter.unusedSimpArgs false
set_option linter.unusedVariables false
set_option maxHeartbeats 600000
open Go.RowKit Go.Sort

def IdRow (w : World) (v : Value) (ids : List Int) : Prop :=
  ∃ a cap, v = .slice a ids.length cap ∧ ∀ i x, ids[i]? = some x → ∃ g, a = some ⟨g, 0, none⟩ ∧ w.cell? ⟨g, i, none⟩ = some (.int .u32 x)

theorem IdRow.keeps {w W : World} {v : Value} {ids : List Int} (h : IdRow w v ids) (hk : Keeps w W) : IdRow W v ids := by
  obtain ⟨a, cap, h1, h2⟩ := h
  exact ⟨a, cap, h1, fun i x hx => by obtain ⟨g, h3, h4⟩ := h2 i x hx; exact ⟨g, h3, hk.cell h4⟩⟩

structure Gathered (S : List Int) (left : Lit → Bool) (ids : List Int) : Prop where
  once : ids.Nodup
  mem : ∀ x, x ∈ ids ↔ (x ∈ S ∧ left (.int .u32 x) = false)

theorem Gathered.start (S : List Int) : Gathered S (Maps.has (marksD S)) [] :=
  ⟨by simp, fun x => by
    constructor
    · intro h; simp at h
    · rintro ⟨h1, h2⟩
      rw [(marksD_has S x).2 h1] at h2
      cases h2⟩

theorem Gathered.step {S : List Int} {left : Lit → Bool} {ids : List Int} (h : Gathered S left ids) {x : Int} (hS : x ∈ S) (hl : left (.int .u32 x) = true) :
    Gathered S (fun z => left z && !z.sameKey (.int .u32 x)) (ids ++ [x]) := by
  refine ⟨List.nodup_append.2 ⟨h.once, by simp, fun a ha c hc e => ?_⟩, fun y => ?_⟩
  · rw [List.mem_singleton] at hc
    subst e hc
    have := ((h.mem _).1 ha).2
    rw [hl] at this
    cases this
  · by_cases hy : y = x
    · subst hy
      simp [hS, Lit.sameKey]
    · simp [h.mem y, hy, Lit.sameKey]

theorem Gathered.perm {S : List Int} {left : Lit → Bool} {ids : List Int} (h : Gathered S left ids) (hS : S.Nodup) (hl : ∀ k, left k = false) : ids.Perm S :=
  (List.perm_ext_iff_of_nodup h.once hS).2 fun x => by rw [h.mem x, hl]; simp

end Go.Proofs.Ytoeoehbpahodnaa
