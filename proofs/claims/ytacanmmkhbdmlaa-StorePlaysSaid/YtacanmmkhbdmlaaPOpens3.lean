/-
  Rows of acts that came in, opened.
-/
import Derived.Test.YtacanmmkhbdmlaaPOpens2
namespace Go.Proofs.Ytacanmmkhbdmlaa
set_option linter.unusedSimpArgs false
set_option linter.unusedVariables false
set_option maxHeartbeats 600000
open Go.ChangeShapes Go.WideShapes Go.ChangeAt Go.RowKit

/-- The eight values of an act. -/
def actVals (p : Int × Rec) : List Value := .int .u8 p.1 :: recVals p.2

/-- Acts that came in. -/
def IsActs (w : World) (a : Option Addr) (len : Nat) (xs : List (Int × Rec)) : Prop :=
  xs.length = len ∧ ∀ i x, xs[i]? = some x → (0 ≤ x.1 ∧ x.1 ≤ 255) ∧ x.2.ok ∧ ∃ b off, a = some ⟨b, off, none⟩ ∧ ∀ j, j < 8 → w.cell? ⟨b, off + i * 8 + j, none⟩ = (actVals x)[j]?

set_option maxRecDepth 100000 in
theorem act_cells {H : Type} {enc : TypeId × Value → H} {W : World} {base : Nat} {spare : Nat → Bool} {held : Bool} {n : Nat} {cs : List Value} {x : DataW H × List MemPlace}
    (h : DataW.trod enc Try.prog W base spare held n 52 cs = some x) : ∃ p : Int × Rec, ((0 ≤ p.1 ∧ p.1 ≤ 255) ∧ p.2.ok) ∧ cs = actVals p := by
  obtain ⟨xs, m, _, _, hlen, hxs, hf⟩ := DataW.trod_struct Try.underlying52 h
  have hC : Try.prog.cellsOf 52 = 8 := by kernel_rfl
  have C8 : Try.prog.cellsOf 5 = 1 := by kernel_rfl
  have CR : Try.prog.cellsOf 50 = 7 := by kernel_rfl
  rw [hC] at hlen
  have f0 := hf 0 _ rfl
  have f1 := hf 1 _ rfl
  rw [List.getElem?_eq_getElem (by rw [hxs]; decide)] at f0 f1
  obtain ⟨a, ha, _, wa⟩ := DataW.trod_int Try.underlying5 f0
  obtain ⟨r, hr, hrc⟩ := rec_cells f1
  match cs, hlen with
  | [c0, c1, c2, c3, c4, c5, c6, c7], _ =>
    simp [C8, CR] at ha hrc
    refine ⟨(a, r), ⟨wf_u8 wa, hr⟩, ?_⟩
    unfold actVals
    rw [ha, ← hrc]

set_option maxRecDepth 100000 in
theorem open_acts {H : Type} {enc : TypeId × Value → H} {W : World} {base : Nat} {spare : Nat → Bool} {held : Bool} {a : Option Addr} {len cap : Nat} {d : DataW H} {p : List MemPlace}
    (h : DataW.Trod enc Try.prog W base spare held 41 (.slice a len cap) d p) : ∃ xs : List (Int × Rec), IsActs W a len xs := by
  obtain ⟨rs, h1, h2⟩ := open_structs (k := 8) (fun (x : Int × Rec) cs => ((0 ≤ x.1 ∧ x.1 ≤ 255) ∧ x.2.ok) ∧ cs = actVals x) Try.underlying41 (by kernel_rfl) (by decide) (fun n cs x hx => by
    obtain ⟨r, h1, h2⟩ := act_cells hx
    exact ⟨by rw [h2]; rfl, r, h1, h2⟩) h
  refine ⟨rs, h1, fun i r hr => ?_⟩
  obtain ⟨b, off, cs, ha, ⟨⟨hk, hok⟩, rfl⟩, hc⟩ := h2 i r hr
  exact ⟨hk, hok, b, off, ha, hc⟩

end Go.Proofs.Ytacanmmkhbdmlaa
