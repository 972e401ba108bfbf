/-
  The walk of the closure in store.reached: what a visit of an edge's node makes of the map.
-/
import Derived.Test.YtiacdpoldgfpbaaPViewA
import Derived.Maps.RangeWalk
import Derived.Maps.OwnOps
import Derived.Laws.EntriesVeiled
import Derived.BigRegion
import Derived.CellFam
import Derived.IntWalk
import Derived.Lib.Tables
import Derived.Lib.BitFns
import Derived.OpenShut
import Derived.Laws.BitsAll
import Derived.Laws.Bits64b
import Derived.Sort.LotC
import Derived.Sort.LotD3
namespace Go.Proofs.Ytiacdpoldgfpbaa
set_option linter.unusedSimpArgs false
set_option linter.unusedVariables false
set_option maxHeartbeats 600000
open Go.RowKit

def marksD (S : List Int) : DataW Unit := Maps.setOf (.lit (.int .i64 1)) (S.map (Lit.int .u32))

theorem marks_keys (S : List Int) : ∀ x ∈ S.map (Lit.int .u32), WideAt.IsKeyLit x := by
  intro x hx
  obtain ⟨y, _, rfl⟩ := List.mem_map.1 hx
  trivial

theorem marksD_has (S : List Int) (x : Int) : Maps.has (marksD S) (.int .u32 x) = true ↔ x ∈ S := by
  unfold marksD
  rw [Maps.has_setOf _ _ _ (marks_keys S), List.any_eq_true]
  constructor
  · rintro ⟨y, hy, hs⟩
    obtain ⟨z, hz, rfl⟩ := List.mem_map.1 hy
    have := WideAt.sameKey_eq hs
    cases this
    exact hz
  · intro h
    exact ⟨_, List.mem_map.2 ⟨x, h, rfl⟩, WideAt.sameKey_self trivial⟩

theorem ids_few : ∀ (n : Nat) (S : List Int), S.Nodup → (∀ x ∈ S, 2 ≤ x ∧ x - 2 < (n : Int)) → S.length ≤ n := by
  intro n
  induction n with
  | zero =>
    intro S _ h
    cases S with
    | nil => simp
    | cons x S => have := h x (by simp); omega
  | succ n ih =>
    intro S hS h
    have h1 := ih (S.erase ((n : Int) + 2)) (hS.erase _) (fun x hx => by
      obtain ⟨hx1, hx2⟩ := (List.Nodup.mem_erase_iff hS).1 hx
      have := h x hx2
      omega)
    have h2 : S.length ≤ (S.erase ((n : Int) + 2)).length + 1 := by
      rw [List.length_erase]
      split <;> omega
    omega

structure VisitCtx (F : Nat → Prop) (sb : Nat) (M : St) (sx nb vb b : Nat) (S : List Int) (W : World) : Prop where
  rep : StoreRep F W sb M
  cs : W.cell? ⟨sx, 0, none⟩ = some (.pointer (some ⟨sb, 0, none⟩))
  cn : W.cell? ⟨nb, 0, none⟩ = some (.map (some b))
  cv : W.cell? ⟨vb, 0, none⟩ = some (.func (.func 146) #[] #[.pointer (some ⟨sx, 0, none⟩), .pointer (some ⟨nb, 0, none⟩), .pointer (some ⟨vb, 0, none⟩)])
  nF : ¬ F b
  own : W.ownsMap Try.prog 22 (plainElem (H := Unit) Try.prog 3) b S.length (marksD S)
  once : S.Nodup
  known : ∀ x ∈ S, look M.cs x ≠ none

theorem VisitCtx.ne {F : Nat → Prop} {sb : Nat} {M : St} {sx nb vb b : Nat} {S : List Int} {W : World} (h : VisitCtx F sb M sx nb vb b S W) : sx ≠ b ∧ nb ≠ b ∧ vb ≠ b := by
  obtain ⟨es, clock, hb, _⟩ := h.own
  have no : ∀ (k : Nat) (v : Value), W.cell? ⟨k, 0, none⟩ = some v → k ≠ b := by
    intro k v hv e
    subst e
    simp [World.cell?, hb] at hv
  exact ⟨no _ _ h.cs, no _ _ h.cn, no _ _ h.cv⟩

theorem VisitCtx.neCell {F : Nat → Prop} {sb : Nat} {M : St} {sx nb vb b : Nat} {S : List Int} {W : World} (h : VisitCtx F sb M sx nb vb b S W) {k o : Nat} {v : Value} (hv : W.cell? ⟨k, o, none⟩ = some v) : k ≠ b := by
  obtain ⟨es, clock, hb, _⟩ := h.own
  intro e
  subst e
  simp [World.cell?, hb] at hv

theorem Keeps.none {w w' : World} (h : Keeps w w') : w.grownBy w' none := ⟨h.os, h.tape, h.output, h.size, fun i hi _ => h.block i hi⟩

theorem Upd.of_grown {b : Nat} {w w' : World} (h : w.grownBy w' (some b)) : Upd (fun k => k = b) w w' := ⟨h.os, h.tape, h.output, h.size, fun i hi hne => h.block i hi (fun e => hne (by cases e; rfl))⟩

theorem Upd.cellAt {F : Nat → Prop} {w w' : World} (h : Upd F w w') {b o : Nat} {v : Value} (hb : ¬ F b) (hc : w.cell? ⟨b, o, none⟩ = some v) : w'.cell? ⟨b, o, none⟩ = some v := by
  have := h.block b (lt_of_cell (a := ⟨b, o, none⟩) hc) hb
  rw [← hc]
  simp only [World.cell?, this]

theorem VisitCtx.keeps {F : Nat → Prop} {sb : Nat} {M : St} {sx nb vb b : Nat} {S : List Int} {W W' : World} (h : VisitCtx F sb M sx nb vb b S W) (hk : Keeps W W') : VisitCtx F sb M sx nb vb b S W' :=
  ⟨h.rep.keeps hk, hk.cell h.cs, hk.cell h.cn, hk.cell h.cv, h.nF, h.own.kept hk.none (by simp), h.once, h.known⟩

theorem VisitCtx.next {F : Nat → Prop} {sb : Nat} {M : St} {sx nb vb b : Nat} {S S' : List Int} {W W' : World} (h : VisitCtx F sb M sx nb vb b S W) (hu : Upd (fun k => k = b) W W')
    (hown : W'.ownsMap Try.prog 22 (plainElem (H := Unit) Try.prog 3) b S'.length (marksD S')) (ho : S'.Nodup) (hk : ∀ x ∈ S', look M.cs x ≠ none) : VisitCtx F sb M sx nb vb b S' W' := by
  obtain ⟨n1, n2, n3⟩ := h.ne
  exact ⟨h.rep.keep hu (fun k hk e => h.nF (by cases e; exact hk)), hu.cellAt n1 h.cs, hu.cellAt n2 h.cn, hu.cellAt n3 h.cv, h.nF, hown, ho, hk⟩

theorem VisitCtx.few {F : Nat → Prop} {sb : Nat} {M : St} {sx nb vb b : Nat} {S : List Int} {W : World} (h : VisitCtx F sb M sx nb vb b S W) : S.length ≤ 1048576 := by
  have h1 := ids_few M.cs.length S h.once (fun x hx => by
    cases hl : look M.cs x with
    | none => exact absurd hl (h.known x hx)
    | some r => have := look_some hl; exact ⟨this.1, this.2.1⟩)
  obtain ⟨⟨ab, ib, ts, Fa, Fi, _, h2, _⟩, _⟩ := h.rep
  have := h2.few
  omega

end Go.Proofs.Ytiacdpoldgfpbaa

namespace Go.Proofs.Ytiacdpoldgfpbaa
set_option linter.unusedSimpArgs false
set_option linter.unusedVariables false
set_option maxHeartbeats 600000
open Go.RowKit

def IsEdges (w : World) (a : Option Addr) (len : Nat) (es : List Edge) : Prop :=
  es.length = len ∧ ∀ i e, es[i]? = some e → e.ok ∧ ∃ b off, a = some ⟨b, off, none⟩ ∧ w.cell? ⟨b, off + i * 2, none⟩ = some (.int .u8 e.tag) ∧ w.cell? ⟨b, off + i * 2 + 1, none⟩ = some (.int .u32 e.to)

theorem IsEdges.keeps {w W : World} {a : Option Addr} {len : Nat} {es : List Edge} (h : IsEdges w a len es) (hk : Keeps w W) : IsEdges W a len es :=
  ⟨h.1, fun i e he => by obtain ⟨h1, b, off, h2, h3, h4⟩ := h.2 i e he; exact ⟨h1, b, off, h2, hk.cell h3, hk.cell h4⟩⟩

end Go.Proofs.Ytiacdpoldgfpbaa

namespace Go.Proofs.Ytiacdpoldgfpbaa
set_option linter.unusedSimpArgs false
set_option linter.unusedVariables false
set_option maxHeartbeats 600000
open Go.RowKit Go.Sort

def RowAt (w : World) (blk cap : Nat) (d : Array Int) : Prop :=
  ∃ cur : Array Value, w.heap[blk]? = some (.cells cur 22 (0, 0)) ∧ cur.size = cap ∧ d.size ≤ cap ∧ ∀ t, t < d.size → cur[t]? = some (.int .u32 d[t]!)

structure SRow (w wr : World) (blk cap : Nat) (d : Array Int) : Prop where
  upd : Upd (fun k => k = blk) w wr
  row : RowAt wr blk cap d

theorem RowAt.cell {w : World} {blk cap : Nat} {d : Array Int} (h : RowAt w blk cap d) : ∀ t, t < d.size → w.cell? ⟨blk, t, none⟩ = some (.int .u32 d[t]!) := by
  obtain ⟨cur, h1, _, _, h4⟩ := h
  intro t ht
  rw [cell_of_row w blk t _ _ _ h1]
  exact h4 t ht

theorem RowAt.frozen {w : World} {blk cap : Nat} {d : Array Int} (h : RowAt w blk cap d) : ∀ t, w.frozen? ⟨blk, t, none⟩ = false := by
  obtain ⟨cur, h1, _⟩ := h
  intro t
  unfold World.frozen?
  rw [h1]
  rfl

theorem RowAt.lt {w : World} {blk cap : Nat} {d : Array Int} (h : RowAt w blk cap d) : blk < w.heap.size := by
  obtain ⟨cur, h1, _⟩ := h
  exact lt_of_heap h1

theorem RowAt.keep {G : Nat → Prop} {w w' : World} {blk cap : Nat} {d : Array Int} (h : RowAt w blk cap d) (hu : Upd G w w') (hg : ¬ G blk) : RowAt w' blk cap d := by
  obtain ⟨cur, h1, h2⟩ := h
  exact ⟨cur, (hu.block blk (lt_of_heap h1) hg).trans h1, h2⟩

theorem SRow.drewN {w wr : World} {blk cap : Nat} {d : Array Int} (h : SRow w wr blk cap d) (n : Nat) : SRow w (wr.drewN n) blk cap d := ⟨h.upd.drewN n, h.row⟩

theorem SRow.drew {w wr : World} {blk cap : Nat} {d : Array Int} (h : SRow w wr blk cap d) : SRow w wr.drew blk cap d := ⟨h.upd.drew, h.row⟩

theorem SRow.trans {w w1 w2 : World} {blk cap : Nat} {d d2 : Array Int} (h : SRow w w1 blk cap d) (h2 : SRow w1 w2 blk cap d2) : SRow w w2 blk cap d2 := ⟨h.upd.trans' h2.upd, h2.row⟩

end Go.Proofs.Ytiacdpoldgfpbaa

namespace Go.Proofs.Ytiacdpoldgfpbaa
set_option linter.unusedSimpArgs false
set_option linter.unusedVariables false
set_option maxHeartbeats 600000
open Go.RowKit Go.Sort

structure BoxAt (w w' : World) (sb : Nat) (n : Int) : Prop where
  upd : Upd (fun k => k = sb) w w'
  cell : w'.cell? ⟨sb, 0, none⟩ = some (.int .i64 n)
  free : w'.frozen? ⟨sb, 0, none⟩ = false

theorem RowAt.box {w w' : World} {blk cap sb : Nat} {n : Int} {d : Array Int} (h : RowAt w blk cap d) (hb : BoxAt w w' sb n) (hne : blk ≠ sb) : RowAt w' blk cap d := h.keep hb.upd hne

theorem BoxAt.trans {w w1 w2 : World} {sb : Nat} {n m : Int} (h : BoxAt w w1 sb n) (h2 : BoxAt w1 w2 sb m) : BoxAt w w2 sb m := ⟨h.upd.trans' h2.upd, h2.cell, h2.free⟩

end Go.Proofs.Ytiacdpoldgfpbaa

namespace Go.Proofs.Ytiacdpoldgfpbaa
set_option linter.unusedSimpArgs false
set_option linter.unusedVariables false
set_option maxHeartbeats 600000
open Go.RowKit Go.Sort

theorem BoxAt.keeps {w w' : World} {o : Obj} {m : Int} (h : BoxAt (w.alloc o) w' w.heap.size m) : Keeps w w' := by
  have h1 : Upd (fun k => k = w.heap.size) w w' := ((Upd.refl _ w).alloc o).trans' h.upd
  exact h1.keeps (fun k hk => by omega)

end Go.Proofs.Ytiacdpoldgfpbaa

namespace Go.Proofs.Ytiacdpoldgfpbaa
set_option linter.unusedSimpArgs false
set_option linter.unusedVariables false
set_option maxHeartbeats 600000
open Go.RowKit Go.Sort

def Leaves (a b a' b' : Nat) (d dk : Array Int) : Prop :=
  ∀ R, PermIn a' b' dk R → SortedIn ltInt a' b' R → PermIn a b d R ∧ SortedIn ltInt a b R

theorem Leaves.refl (a b : Nat) (d : Array Int) : Leaves a b a b d d := fun _ h1 h2 => ⟨h1, h2⟩

theorem Leaves.perm {a b a' b' : Nat} {d dk d2 : Array Int} (h : Leaves a b a' b' d dk) (hp : PermIn a' b' dk d2) : Leaves a b a' b' d d2 :=
  fun R h1 h2 => h R (permIn_trans _ _ _ _ _ hp h1) h2

theorem SRow.keeps {w w1 w2 : World} {blk cap : Nat} {d : Array Int} (h : SRow w w1 blk cap d) (hk : Keeps w1 w2) : SRow w w2 blk cap d := h.trans ⟨Keeps.upd hk _, h.row.keep (Keeps.upd hk (fun _ => False)) (fun h => h)⟩

end Go.Proofs.Ytiacdpoldgfpbaa

namespace Go.Proofs.Ytiacdpoldgfpbaa
set_option linter.unusedSimpArgs false
set_option linter.unusedVariables false
set_option maxHeartbeats 600000
open Go.RowKit Go.Sort

def IdRow (w : World) (v : Value) (ids : List Int) : Prop :=
  ∃ a cap, v = .slice a ids.length cap ∧ ∀ i x, ids[i]? = some x → ∃ g, a = some ⟨g, 0, none⟩ ∧ w.cell? ⟨g, i, none⟩ = some (.int .u32 x)

theorem IdRow.keeps {w W : World} {v : Value} {ids : List Int} (h : IdRow w v ids) (hk : Keeps w W) : IdRow W v ids := by
  obtain ⟨a, cap, h1, h2⟩ := h
  exact ⟨a, cap, h1, fun i x hx => by obtain ⟨g, h3, h4⟩ := h2 i x hx; exact ⟨g, h3, hk.cell h4⟩⟩

structure Gathered (S : List Int) (left : Lit → Bool) (ids : List Int) : Prop where
  once : ids.Nodup
  mem : ∀ x, x ∈ ids ↔ (x ∈ S ∧ left (.int .u32 x) = false)

theorem Gathered.start (S : List Int) : Gathered S (Maps.has (marksD S)) [] :=
  ⟨by simp, fun x => by
    constructor
    · intro h; simp at h
    · rintro ⟨h1, h2⟩
      rw [(marksD_has S x).2 h1] at h2
      cases h2⟩

theorem Gathered.step {S : List Int} {left : Lit → Bool} {ids : List Int} (h : Gathered S left ids) {x : Int} (hS : x ∈ S) (hl : left (.int .u32 x) = true) :
    Gathered S (fun z => left z && !z.sameKey (.int .u32 x)) (ids ++ [x]) := by
  refine ⟨List.nodup_append.2 ⟨h.once, by simp, fun a ha c hc e => ?_⟩, fun y => ?_⟩
  · rw [List.mem_singleton] at hc
    subst e hc
    have := ((h.mem _).1 ha).2
    rw [hl] at this
    cases this
  · by_cases hy : y = x
    · subst hy
      simp [hS, Lit.sameKey]
    · simp [h.mem y, hy, Lit.sameKey]

theorem Gathered.perm {S : List Int} {left : Lit → Bool} {ids : List Int} (h : Gathered S left ids) (hS : S.Nodup) (hl : ∀ k, left k = false) : ids.Perm S :=
  (List.perm_ext_iff_of_nodup h.once hS).2 fun x => by rw [h.mem x, hl]; simp

end Go.Proofs.Ytiacdpoldgfpbaa
