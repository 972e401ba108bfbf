/-
  Rows of edges and of acts that came in, opened.
-/
import Derived.Test.YtacanmmkhbdmlaaPOpens
import Derived.Test.YtacanmmkhbdmlaaPReachA
namespace Go.Proofs.Ytacanmmkhbdmlaa
set_option linter.unusedSimpArgs false
set_option linter.unusedVariables false
set_option maxHeartbeats 600000
open Go.ChangeShapes Go.WideShapes Go.ChangeAt Go.RowKit

set_option maxRecDepth 100000 in
theorem open_edges {H : Type} {enc : TypeId × Value → H} {W : World} {base : Nat} {spare : Nat → Bool} {held : Bool} {a : Option Addr} {len cap : Nat} {d : DataW H} {p : List MemPlace}
    (h : DataW.Trod enc Try.prog W base spare held 56 (.slice a len cap) d p) : ∃ rs : List Edge, IsEdges W a len rs := by
  obtain ⟨rs, h1, h2⟩ := open_structs (k := 2) (fun (r : Edge) cs => r.ok ∧ cs = [.int .u8 r.tag, .int .u32 r.to]) Try.underlying56 (by kernel_rfl) (by decide) (fun n cs x hx => by
    obtain ⟨r, h1, h2⟩ := edge_cells hx
    exact ⟨by rw [h2]; rfl, r, h1, h2⟩) h
  refine ⟨rs, h1, fun i r hr => ?_⟩
  obtain ⟨b, off, cs, ha, ⟨hok, rfl⟩, hc⟩ := h2 i r hr
  have c0 := hc 0 (by decide)
  rw [Nat.add_zero] at c0
  exact ⟨hok, b, off, ha, c0, hc 1 (by decide)⟩

set_option maxRecDepth 100000 in
theorem open_rec {H : Type} {enc : TypeId × Value → H} {W : World} {base b0 : Nat} {spare : Nat → Bool} {held : Bool} {r : Reach} {v : Value} {d : DataW H} {p : List MemPlace} (hv : Value.okWide Try.prog W r b0 50 v)
    (h : DataW.Trod enc Try.prog W base spare held 50 v d p) : ∃ x : Rec, x.ok ∧ v = .agg #[.int .u8 x.form, .int .u8 x.top, .int .u8 x.bot, .int .u8 x.lo.tag, .int .u32 x.lo.to, .int .u8 x.hi.tag, .int .u32 x.hi.to] := by
  obtain ⟨cs, rfl, _⟩ := okWide_struct Try.underlying50 hv
  obtain ⟨n, hf⟩ := h
  obtain ⟨x, h1, h2⟩ := rec_cells hf
  refine ⟨x, h1, ?_⟩
  obtain ⟨l⟩ := cs
  simp [Value.cells] at h2
  rw [h2]
  rfl

end Go.Proofs.Ytacanmmkhbdmlaa
