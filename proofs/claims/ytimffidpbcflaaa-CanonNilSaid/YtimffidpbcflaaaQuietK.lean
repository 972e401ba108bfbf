/-
  A region that draws its order and whose operations only read, but whose callees may make memory: one walk in the order of the text.
-/
import Derived.Test.YtimffidpbcflaaaWorld
import Derived.BigQuiet
namespace Go.Proofs.Ytimffidpbcflaaa
set_option linter.unusedSimpArgs false
set_option linter.unusedVariables false
set_option maxHeartbeats 600000
open Go.RowKit

/-- A world in which nothing of W0 has turned. -/
structure KWorld (W0 : World) where
  w : World
  keep : Keeps W0 w

instance (W0 : World) : Nonempty (KWorld W0) := ⟨⟨W0, Keeps.refl W0⟩⟩

theorem wp_region_keeps {P : Program} {id : Nat} {Q : Exit → Act → World → Prop} {a : Act} {w : World} {l : List Oper} (W0 : World) (hm : P.follows .mixedOrders = true) (hB : Region.lexB .any l.toArray = true) (h0 : Keeps W0 w)
    (h : wpQuiet P l.toArray (fun w' => ∃ x : KWorld W0, w' = x.w) (fun a' => ∀ w', (∃ x : KWorld W0, w' = x.w) → Q .normal a' w') l a) : (Code.region id l.toArray true).wp P Q a w :=
  wp_region_quiet (C := fun w' => ∃ x : KWorld W0, w' = x.w) hm hB ⟨⟨w.drew, h0.drew⟩, rfl⟩ (by simpa using h)

/-- A callee's contract in such a region. -/
theorem Calls.keepsK {P : Program} {f : FuncId} {args : Array Value} {W0 : World} {x : KWorld W0} {v : Value}
    (h : Calls P f args x.w fun e w' => e = .returned v ∧ Keeps x.w w') : Calls P f args x.w fun e w'' => e = .returned v ∧ ∃ m : KWorld W0, w'' = m.w :=
  h.mono fun _ w' ⟨he, hk⟩ => ⟨he, ⟨w', x.keep.trans hk⟩, rfl⟩

/-- .. of a callee that leaves the world alone. -/
theorem Calls.sameK {P : Program} {f : FuncId} {args : Array Value} {W0 : World} {x : KWorld W0} {v : Value}
    (h : Calls P f args x.w fun e w' => e = .returned v ∧ x.w = w') : Calls P f args x.w fun e w'' => e = .returned v ∧ ∃ m : KWorld W0, w'' = m.w :=
  h.mono fun _ w' ⟨he, hk⟩ => ⟨he, x, hk.symm⟩

theorem KWorld.cell {W0 : World} {a : Addr} {v : Value} (h : W0.cell? a = some v) (x : KWorld W0) : x.w.cell? a = some v := x.keep.cell h

end Go.Proofs.Ytimffidpbcflaaa
