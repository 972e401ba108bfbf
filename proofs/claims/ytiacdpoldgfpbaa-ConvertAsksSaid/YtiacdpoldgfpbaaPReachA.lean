/-
  The walk of the closure in store.reached: what a visit of an edge's node makes of the map.
-/
import Derived.Test.YtiacdpoldgfpbaaPBuiltA
import Derived.Test.YtiacdpoldgfpbaaPSortC
import Derived.Maps.RangeWalk
import Derived.Maps.OwnOps
import Derived.Laws.EntriesVeiled
namespace Go.Proofs.Ytiacdpoldgfpbaa
set_option linter.unusedSimpArgs false
set_option linter.unusedVariables false
set_option maxHeartbeats 600000
open Go.RowKit

def marksD (S : List Int) : DataW Unit := Maps.setOf (.lit (.int .i64 1)) (S.map (Lit.int .u32))

theorem marks_keys (S : List Int) : ∀ x ∈ S.map (Lit.int .u32), WideAt.IsKeyLit x := by
  intro x hx
  obtain ⟨y, _, rfl⟩ := List.mem_map.1 hx
  trivial

theorem marksD_has (S : List Int) (x : Int) : Maps.has (marksD S) (.int .u32 x) = true ↔ x ∈ S := by
  unfold marksD
  rw [Maps.has_setOf _ _ _ (marks_keys S), List.any_eq_true]
  constructor
  · rintro ⟨y, hy, hs⟩
    obtain ⟨z, hz, rfl⟩ := List.mem_map.1 hy
    have := WideAt.sameKey_eq hs
    cases this
    exact hz
  · intro h
    exact ⟨_, List.mem_map.2 ⟨x, h, rfl⟩, WideAt.sameKey_self trivial⟩

theorem ids_few : ∀ (n : Nat) (S : List Int), S.Nodup → (∀ x ∈ S, 2 ≤ x ∧ x - 2 < (n : Int)) → S.length ≤ n := by
  intro n
  induction n with
  | zero =>
    intro S _ h
    cases S with
    | nil => simp
    | cons x S => have := h x (by simp); omega
  | succ n ih =>
    intro S hS h
    have h1 := ih (S.erase ((n : Int) + 2)) (hS.erase _) (fun x hx => by
      obtain ⟨hx1, hx2⟩ := (List.Nodup.mem_erase_iff hS).1 hx
      have := h x hx2
      omega)
    have h2 : S.length ≤ (S.erase ((n : Int) + 2)).length + 1 := by
      rw [List.length_erase]
      split <;> omega
    omega

structure VisitCtx (F : Nat → Prop) (sb : Nat) (M : St) (sx nb vb b : Nat) (S : List Int) (W : World) : Prop where
  rep : StoreRep F W sb M
  cs : W.cell? ⟨sx, 0, none⟩ = some (.pointer (some ⟨sb, 0, none⟩))
  cn : W.cell? ⟨nb, 0, none⟩ = some (.map (some b))
  cv : W.cell? ⟨vb, 0, none⟩ = some (.func (.func 146) #[] #[.pointer (some ⟨sx, 0, none⟩), .pointer (some ⟨nb, 0, none⟩), .pointer (some ⟨vb, 0, none⟩)])
  nF : ¬ F b
  own : W.ownsMap Try.prog 22 (plainElem (H := Unit) Try.prog 3) b S.length (marksD S)
  once : S.Nodup
  known : ∀ x ∈ S, look M.cs x ≠ none

theorem VisitCtx.ne {F : Nat → Prop} {sb : Nat} {M : St} {sx nb vb b : Nat} {S : List Int} {W : World} (h : VisitCtx F sb M sx nb vb b S W) : sx ≠ b ∧ nb ≠ b ∧ vb ≠ b := by
  obtain ⟨es, clock, hb, _⟩ := h.own
  have no : ∀ (k : Nat) (v : Value), W.cell? ⟨k, 0, none⟩ = some v → k ≠ b := by
    intro k v hv e
    subst e
    simp [World.cell?, hb] at hv
  exact ⟨no _ _ h.cs, no _ _ h.cn, no _ _ h.cv⟩

theorem VisitCtx.neCell {F : Nat → Prop} {sb : Nat} {M : St} {sx nb vb b : Nat} {S : List Int} {W : World} (h : VisitCtx F sb M sx nb vb b S W) {k o : Nat} {v : Value} (hv : W.cell? ⟨k, o, none⟩ = some v) : k ≠ b := by
  obtain ⟨es, clock, hb, _⟩ := h.own
  intro e
  subst e
  simp [World.cell?, hb] at hv

theorem Keeps.none {w w' : World} (h : Keeps w w') : w.grownBy w' none := ⟨h.os, h.tape, h.output, h.size, fun i hi _ => h.block i hi⟩

theorem Upd.of_grown {b : Nat} {w w' : World} (h : w.grownBy w' (some b)) : Upd (fun k => k = b) w w' := ⟨h.os, h.tape, h.output, h.size, fun i hi hne => h.block i hi (fun e => hne (by cases e; rfl))⟩

theorem Upd.cellAt {F : Nat → Prop} {w w' : World} (h : Upd F w w') {b o : Nat} {v : Value} (hb : ¬ F b) (hc : w.cell? ⟨b, o, none⟩ = some v) : w'.cell? ⟨b, o, none⟩ = some v := by
  have := h.block b (lt_of_cell (a := ⟨b, o, none⟩) hc) hb
  rw [← hc]
  simp only [World.cell?, this]

theorem VisitCtx.keeps {F : Nat → Prop} {sb : Nat} {M : St} {sx nb vb b : Nat} {S : List Int} {W W' : World} (h : VisitCtx F sb M sx nb vb b S W) (hk : Keeps W W') : VisitCtx F sb M sx nb vb b S W' :=
  ⟨h.rep.keeps hk, hk.cell h.cs, hk.cell h.cn, hk.cell h.cv, h.nF, h.own.kept hk.none (by simp), h.once, h.known⟩

theorem VisitCtx.next {F : Nat → Prop} {sb : Nat} {M : St} {sx nb vb b : Nat} {S S' : List Int} {W W' : World} (h : VisitCtx F sb M sx nb vb b S W) (hu : Upd (fun k => k = b) W W')
    (hown : W'.ownsMap Try.prog 22 (plainElem (H := Unit) Try.prog 3) b S'.length (marksD S')) (ho : S'.Nodup) (hk : ∀ x ∈ S', look M.cs x ≠ none) : VisitCtx F sb M sx nb vb b S' W' := by
  obtain ⟨n1, n2, n3⟩ := h.ne
  exact ⟨h.rep.keep hu (fun k hk e => h.nF (by cases e; exact hk)), hu.cellAt n1 h.cs, hu.cellAt n2 h.cn, hu.cellAt n3 h.cv, h.nF, hown, ho, hk⟩

theorem VisitCtx.few {F : Nat → Prop} {sb : Nat} {M : St} {sx nb vb b : Nat} {S : List Int} {W : World} (h : VisitCtx F sb M sx nb vb b S W) : S.length ≤ 1048576 := by
  have h1 := ids_few M.cs.length S h.once (fun x hx => by
    cases hl : look M.cs x with
    | none => exact absurd hl (h.known x hx)
    | some r => have := look_some hl; exact ⟨this.1, this.2.1⟩)
  obtain ⟨⟨ab, ib, ts, Fa, Fi, _, h2, _⟩, _⟩ := h.rep
  have := h2.few
  omega

end Go.Proofs.Ytiacdpoldgfpbaa

namespace Go.Proofs.Ytiacdpoldgfpbaa
set_option linter.unusedSimpArgs false
set_option linter.unusedVariables false
set_option maxHeartbeats 600000
open Go.RowKit

def IsEdges (w : World) (a : Option Addr) (len : Nat) (es : List Edge) : Prop :=
  es.length = len ∧ ∀ i e, es[i]? = some e → e.ok ∧ ∃ b off, a = some ⟨b, off, none⟩ ∧ w.cell? ⟨b, off + i * 2, none⟩ = some (.int .u8 e.tag) ∧ w.cell? ⟨b, off + i * 2 + 1, none⟩ = some (.int .u32 e.to)

theorem IsEdges.keeps {w W : World} {a : Option Addr} {len : Nat} {es : List Edge} (h : IsEdges w a len es) (hk : Keeps w W) : IsEdges W a len es :=
  ⟨h.1, fun i e he => by obtain ⟨h1, b, off, h2, h3, h4⟩ := h.2 i e he; exact ⟨h1, b, off, h2, hk.cell h3, hk.cell h4⟩⟩

end Go.Proofs.Ytiacdpoldgfpbaa

namespace Go.Proofs.Ytiacdpoldgfpbaa
set_option linter.unusedSimpArgs false
set_option linter.unusedVariables false
set_option maxHeartbeats 600000
open Go.RowKit Go.Sort

def IdRow (w : World) (v : Value) (ids : List Int) : Prop :=
  ∃ a cap, v = .slice a ids.length cap ∧ ∀ i x, ids[i]? = some x → ∃ g, a = some ⟨g, 0, none⟩ ∧ w.cell? ⟨g, i, none⟩ = some (.int .u32 x)

theorem IdRow.keeps {w W : World} {v : Value} {ids : List Int} (h : IdRow w v ids) (hk : Keeps w W) : IdRow W v ids := by
  obtain ⟨a, cap, h1, h2⟩ := h
  exact ⟨a, cap, h1, fun i x hx => by obtain ⟨g, h3, h4⟩ := h2 i x hx; exact ⟨g, h3, hk.cell h4⟩⟩

structure Gathered (S : List Int) (left : Lit → Bool) (ids : List Int) : Prop where
  once : ids.Nodup
  mem : ∀ x, x ∈ ids ↔ (x ∈ S ∧ left (.int .u32 x) = false)

theorem Gathered.start (S : List Int) : Gathered S (Maps.has (marksD S)) [] :=
  ⟨by simp, fun x => by
    constructor
    · intro h; simp at h
    · rintro ⟨h1, h2⟩
      rw [(marksD_has S x).2 h1] at h2
      cases h2⟩

theorem Gathered.step {S : List Int} {left : Lit → Bool} {ids : List Int} (h : Gathered S left ids) {x : Int} (hS : x ∈ S) (hl : left (.int .u32 x) = true) :
    Gathered S (fun z => left z && !z.sameKey (.int .u32 x)) (ids ++ [x]) := by
  refine ⟨List.nodup_append.2 ⟨h.once, by simp, fun a ha c hc e => ?_⟩, fun y => ?_⟩
  · rw [List.mem_singleton] at hc
    subst e hc
    have := ((h.mem _).1 ha).2
    rw [hl] at this
    cases this
  · by_cases hy : y = x
    · subst hy
      simp [hS, Lit.sameKey]
    · simp [h.mem y, hy, Lit.sameKey]

end Go.Proofs.Ytiacdpoldgfpbaa
