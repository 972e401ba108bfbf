/-
  Plainly: assignments under an order of the variables; what a step makes of them.
-/
import Derived.Test.YtiacdpoldgfpbaaPSwapP
import Derived.Test.YtiacdpoldgfpbaaPTableW
namespace Go.Proofs.Ytiacdpoldgfpbaa
set_option linter.unusedSimpArgs false
set_option linter.unusedVariables false
set_option maxHeartbeats 600000

def vb (X : Nat) (v : Int) : Nat := if bitB (X : Int) v = true then 1 else 0

theorem vb_le (X : Nat) (v : Int) : vb X v ≤ 1 := by unfold vb; split <;> decide

def upN (X : Nat) : List Int → Nat
  | [] => 0
  | v :: ps => vb X v + 2 * upN X ps

theorem bitB_testBit (y j : Nat) : bitB (y : Int) (j : Int) = y.testBit j := by
  rw [bitB_nat, Nat.testBit_eq_decide_div_mod_eq]

theorem upN_bit (X : Nat) : ∀ (ps : List Int) (j : Nat), (upN X ps).testBit j = match ps[j]? with | some v => bitB (X : Int) v | none => false := by
  intro ps
  induction ps with
  | nil => intro j; show (0 : Nat).testBit j = _; simp
  | cons v ps ih =>
    intro j
    show (vb X v + 2 * upN X ps).testBit j = _
    cases j with
    | zero =>
      rw [Nat.testBit_zero]
      show decide ((vb X v + 2 * upN X ps) % 2 = 1) = bitB (X : Int) v
      unfold vb
      cases bitB (X : Int) v with
      | true => rw [if_pos rfl]; exact decide_eq_true (by omega)
      | false => rw [if_neg (by simp)]; exact decide_eq_false (by omega)
    | succ j =>
      rw [Nat.testBit_succ]
      have e : (vb X v + 2 * upN X ps) / 2 = upN X ps := by have := vb_le X v; omega
      rw [e, ih]
      rfl

theorem swB_step {ps : List Int} {i : Nat} (h : i + 1 < ps.length) (X : Nat) : SwB (i : Int) (upN X (stepL ps i) : Int) (upN X ps : Int) := by
  have key : ∀ j : Nat, bitB (upN X (stepL ps i) : Int) (j : Int) = match (if j = i then ps[i + 1]? else if j = i + 1 then ps[i]? else ps[j]?) with | some v => bitB (X : Int) v | none => false := fun j => by
    rw [bitB_testBit, upN_bit, stepL_get h]
  have key2 : ∀ j : Nat, bitB (upN X ps : Int) (j : Int) = match ps[j]? with | some v => bitB (X : Int) v | none => false := fun j => by
    rw [bitB_testBit, upN_bit]
  refine ⟨?_, ?_, fun j h0 h1 h2 => ?_⟩
  · rw [key i, if_pos rfl, show (i : Int) + 1 = ((i + 1 : Nat) : Int) by push_cast; rfl, key2]
  · rw [show (i : Int) + 1 = ((i + 1 : Nat) : Int) by push_cast; rfl, key (i + 1), if_neg (by omega), if_pos rfl, key2]
  · obtain ⟨j, rfl⟩ : ∃ k : Nat, j = (k : Int) := ⟨j.toNat, by omega⟩
    rw [key j, if_neg (by omega), if_neg (by omega), key2]

def tabP (M : St) (ps : List Int) (f : Int) (e : Edge) : List Bool := (List.range (2 ^ ps.length)).map (fun X => tv M f (upN X ps : Int) 0 e)

theorem tabP_ext {M M' : St} (h : M.wf) (hE : Ext M M') {ps : List Int} {f : Int} {e : Edge} (hl : M.leads f e 0 = true) : tabP M' ps f e = tabP M ps f e := by
  unfold tabP
  refine List.map_congr_left fun X _ => ?_
  exact tv_ext h hE (Weak.of hl)

theorem GoodS.tabP {lv : Nat} {f : Int} {M : St} {e x : Edge} (h : GoodS (lv : Int) f M e 0 x) {ps : List Int} (hlv : lv + 1 < ps.length) : tabP M (stepL ps lv) f x = tabP M ps f e := by
  unfold Go.Proofs.Ytiacdpoldgfpbaa.tabP
  rw [stepL_len]
  exact List.map_congr_left fun X _ => h.means _ _ (swB_step hlv X)

end Go.Proofs.Ytiacdpoldgfpbaa

namespace Go.Proofs.Ytiacdpoldgfpbaa
set_option linter.unusedSimpArgs false
set_option linter.unusedVariables false
set_option maxHeartbeats 600000
open Go.ChangeShapes Go.WideShapes Go.ChangeAt Go.RowKit

def IsInts (w : World) (a : Option Addr) (len : Nat) (ps : List Int) : Prop := ps.length = len ∧ IntsAt w a ps ∧ ∀ x ∈ ps, (Lit.int .i64 x).wf = true

def IsRootRow (w : World) (a : Option Addr) (len : Nat) (rs : List (Int × Edge)) : Prop := rs.length = len ∧ IsRoots w a rs

set_option maxRecDepth 100000 in
theorem open_intRow {H : Type} {enc : TypeId × Value → H} {W : World} {base : Nat} {spare : Nat → Bool} {held : Bool} {a : Option Addr} {len cap : Nat} {d : DataW H} {p : List MemPlace}
    (h : DataW.Trod enc Try.prog W base spare held 49 (.slice a len cap) d p) : ∃ ps : List Int, IsInts W a len ps := by
  obtain ⟨rs, h1, h2⟩ := open_structs (k := 1) (fun (r : Int) cs => (Lit.int .i64 r).wf = true ∧ cs = [.int .i64 r]) Try.underlying49 (by kernel_rfl) (by decide) (fun n cs x hx => by
    obtain ⟨r, h1, _, h2⟩ := DataW.trod_int Try.underlying3 hx
    exact ⟨by rw [h1]; rfl, r, h2, h1⟩) h
  refine ⟨rs, h1, fun i r hr => ?_, fun x hx => ?_⟩
  · obtain ⟨b, off, cs, ha, ⟨hok, rfl⟩, hc⟩ := h2 i r hr
    have := hc 0 (by decide)
    rw [Nat.mul_one, Nat.add_zero] at this
    exact ⟨b, off, ha, this⟩
  · obtain ⟨i, hi⟩ := List.mem_iff_getElem?.1 hx
    obtain ⟨b, off, cs, ha, ⟨hok, rfl⟩, hc⟩ := h2 i x hi
    exact hok

instance : Inhabited (Int × Edge) := ⟨(0, Edge.zero)⟩

set_option maxRecDepth 100000 in
theorem root_cells {H : Type} {enc : TypeId × Value → H} {W : World} {base : Nat} {spare : Nat → Bool} {held : Bool} {n : Nat} {cs : List Value} {x : DataW H × List MemPlace}
    (h : DataW.trod enc Try.prog W base spare held n 133 cs = some x) : ∃ r : Int × Edge, ((0 ≤ r.1 ∧ r.1 ≤ 255) ∧ r.2.ok) ∧ cs = [.int .u8 r.1, .int .u8 r.2.tag, .int .u32 r.2.to] := by
  obtain ⟨xs, m, _, _, hlen, hxs, hf⟩ := DataW.trod_struct Try.underlying133 h
  have hC : Try.prog.cellsOf 133 = 3 := by kernel_rfl
  have C8 : Try.prog.cellsOf 5 = 1 := by kernel_rfl
  have CE : Try.prog.cellsOf 24 = 2 := by kernel_rfl
  rw [hC] at hlen
  have f0 := hf 0 _ rfl
  have f1 := hf 1 _ rfl
  rw [List.getElem?_eq_getElem (by rw [hxs]; decide)] at f0 f1
  obtain ⟨a, ha, _, wa⟩ := DataW.trod_int Try.underlying5 f0
  obtain ⟨e, we, he⟩ := edge_cells f1
  match cs, hlen with
  | [c0, c1, c2], _ =>
    simp [C8, CE] at ha he
    refine ⟨(a, e), ⟨wf_u8 wa, we⟩, ?_⟩
    rw [ha, he.1, he.2]

set_option maxRecDepth 100000 in
theorem open_rootRow {H : Type} {enc : TypeId × Value → H} {W : World} {base : Nat} {spare : Nat → Bool} {held : Bool} {a : Option Addr} {len cap : Nat} {d : DataW H} {p : List MemPlace}
    (h : DataW.Trod enc Try.prog W base spare held 50 (.slice a len cap) d p) : ∃ rs : List (Int × Edge), IsRootRow W a len rs := by
  obtain ⟨rs, h1, h2⟩ := open_structs (k := 3) (fun (r : Int × Edge) cs => ((0 ≤ r.1 ∧ r.1 ≤ 255) ∧ r.2.ok) ∧ cs = [.int .u8 r.1, .int .u8 r.2.tag, .int .u32 r.2.to]) Try.underlying50 (by kernel_rfl) (by decide) (fun n cs x hx => by
    obtain ⟨r, h1, h2⟩ := root_cells hx
    exact ⟨by rw [h2]; rfl, r, h1, h2⟩) h
  refine ⟨rs, h1, fun i r hr => ?_⟩
  obtain ⟨b, off, cs, ha, ⟨hok, rfl⟩, hc⟩ := h2 i r hr
  have c0 := hc 0 (by decide)
  rw [Nat.add_zero] at c0
  exact ⟨hok.1, hok.2, b, off, ha, c0, hc 1 (by decide), hc 2 (by decide)⟩

end Go.Proofs.Ytiacdpoldgfpbaa
