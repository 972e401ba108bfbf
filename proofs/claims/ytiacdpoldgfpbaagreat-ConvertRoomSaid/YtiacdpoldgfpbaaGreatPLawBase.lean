/-
  Arguments that came in, opened; and read again behind a call below which nothing has turned.
-/
import Derived.Test.YtiacdpoldgfpbaaGreatPMBase
import Derived.ProofKit
import Derived.OpenShut
import Derived.ChangeOld
import Derived.Carry
import Derived.Lib.SmallJoins
import Derived.Deep.Slices
import Derived.Deep.Fields
namespace Go.Proofs.YtiacdpoldgfpbaaGreat
set_option linter.unusedSimpArgs false
set_option linter.unusedVariables false
set_option maxHeartbeats 600000
open Go.ChangeShapes Go.WideShapes Go.ChangeAt Go.RowKit Go.Joins Go.Deep

theorem own : ownKnob Tryz.prog.godebug = none := by kernel_rfl

theorem laidOut : laidOutB Tryz.prog = true := by kernel_rfl

theorem trodAll_below {H : Type} {enc : TypeId × Value → H} {P : Program} (hl : laidOutB P = true) {W W' : World} (hb : Below W.heap.size W W') : ∀ (ts : List TypeId) (vs : List Value) (ds : List (DataW H)) (ps : List MemPlace),
    (ts.all fun t => P.readableRec t && decide (t < P.types.size)) = true → DataW.TrodAll enc P W 0 (fun _ => true) true ts vs ds ps → DataW.TrodAll enc P W' 0 (fun b => decide (b < W.heap.size)) true ts vs ds ps
  | [], vs, ds, ps, _, h => by cases vs <;> cases ds <;> simp_all [DataW.TrodAll]
  | t :: ts, vs, ds, ps, ht, h => by
    obtain ⟨v, vs', d, ds', p, q, rfl, rfl, rfl, h0, h1⟩ := trodAll_cons h
    simp only [List.all_cons, Bool.and_eq_true, decide_eq_true_eq] at ht
    refine trodAll_cons_mk (Below.trod hl ht.1.1 ht.1.2 h0 hb ?_) (trodAll_below hl hb ts vs' ds' q ht.2 h1)
    obtain ⟨m, hm⟩ := h0
    exact DataW.trod_lt m _ _ _ hm

instance : Inhabited Rec := ⟨Rec.zero⟩

instance : Inhabited Edge := ⟨Edge.zero⟩

end Go.Proofs.YtiacdpoldgfpbaaGreat

namespace Go.Proofs.YtiacdpoldgfpbaaGreat
set_option linter.unusedSimpArgs false
set_option linter.unusedVariables false
set_option maxHeartbeats 600000
open Go.RowKit

theorem IsRecs.keeps {w W : World} {a : Option Addr} {len : Nat} {rs : List Rec} (h : IsRecs w a len rs) (hk : Keeps w W) : IsRecs W a len rs := by
  refine ⟨h.1, fun i r hr => ?_⟩
  obtain ⟨h1, b, off, h2, h3⟩ := h.2 i r hr
  exact ⟨h1, b, off, h2, fun j hj => by
    rw [List.getElem?_eq_getElem (show j < (recVals r).length from hj)]
    exact hk.cell ((h3 j hj).trans (List.getElem?_eq_getElem (show j < (recVals r).length from hj)))⟩

end Go.Proofs.YtiacdpoldgfpbaaGreat
