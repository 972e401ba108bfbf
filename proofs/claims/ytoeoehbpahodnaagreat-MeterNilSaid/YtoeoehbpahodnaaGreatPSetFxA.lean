/-
  Arguments that came in, opened; and read again behind a call below which nothing has turned.
-/
import Derived.Test.YtoeoehbpahodnaaGreatPSetW
namespace Go.Proofs.YtoeoehbpahodnaaGreat
set_option linter.unusedSimpArgs false
set_option linter.unusedVariables false
set_option maxHeartbeats 600000
open Go.ChangeShapes Go.WideShapes Go.ChangeAt Go.RowKit Go.Joins Go.Deep

theorem wf_u8 {n : Int} (h : (Lit.int .u8 n).wf = true) : 0 ≤ n ∧ n ≤ 255 := by
  unfold Lit.wf at h
  simp only [Bool.and_eq_true, decide_eq_true_eq] at h
  exact h

theorem wf_u32 {n : Int} (h : (Lit.int .u32 n).wf = true) : 0 ≤ n ∧ n ≤ 4294967295 := by
  unfold Lit.wf at h
  simp only [Bool.and_eq_true, decide_eq_true_eq] at h
  exact h

set_option maxRecDepth 100000 in
theorem edge_cells {H : Type} {enc : TypeId × Value → H} {W : World} {base : Nat} {spare : Nat → Bool} {held : Bool} {n : Nat} {cs : List Value} {x : DataW H × List MemPlace}
    (h : DataW.trod enc Tryz.prog W base spare held n 43 cs = some x) : ∃ e : Edge, e.ok ∧ cs = [.int .u8 e.tag, .int .u32 e.to] := by
  obtain ⟨xs, m, _, _, hlen, hxs, hf⟩ := DataW.trod_struct Tryz.underlying43 h
  have hC : Tryz.prog.cellsOf 43 = 2 := by kernel_rfl
  have C8 : Tryz.prog.cellsOf 5 = 1 := by kernel_rfl
  have C32 : Tryz.prog.cellsOf 41 = 1 := by kernel_rfl
  rw [hC] at hlen
  have f0 := hf 0 _ rfl
  have f1 := hf 1 _ rfl
  rw [List.getElem?_eq_getElem (by rw [hxs]; decide)] at f0 f1
  obtain ⟨a, ha, _, wa⟩ := DataW.trod_int Tryz.underlying5 f0
  obtain ⟨b, hb, _, wb⟩ := DataW.trod_int Tryz.underlying41 f1
  match cs, hlen with
  | [c0, c1], _ =>
    simp [C8, C32] at ha hb
    exact ⟨⟨a, b⟩, ⟨wf_u8 wa, wf_u32 wb⟩, by rw [ha, hb]⟩

set_option maxRecDepth 100000 in
theorem open_edge {H : Type} {enc : TypeId × Value → H} {W : World} {base b0 : Nat} {spare : Nat → Bool} {held : Bool} {r : Reach} {v : Value} {d : DataW H} {p : List MemPlace} (hv : Value.okWide Tryz.prog W r b0 43 v)
    (h : DataW.Trod enc Tryz.prog W base spare held 43 v d p) : ∃ e : Edge, e.ok ∧ v = .agg #[.int .u8 e.tag, .int .u32 e.to] := by
  obtain ⟨cs, rfl, _⟩ := okWide_struct Tryz.underlying43 hv
  obtain ⟨n, hf⟩ := h
  obtain ⟨e, h1, h2⟩ := edge_cells hf
  refine ⟨e, h1, ?_⟩
  obtain ⟨l⟩ := cs
  simp [Value.cells] at h2
  rw [h2]

end Go.Proofs.YtoeoehbpahodnaaGreat

namespace Go.Proofs.YtoeoehbpahodnaaGreat
set_option linter.unusedSimpArgs false
set_option linter.unusedVariables false
set_option maxHeartbeats 600000
open Go.RowKit

def RowU (w : World) (g : Nat) (ps : List Int) : Prop := ∃ cur : Array Value, w.heap[g]? = some (.cells cur 84 (0, 0)) ∧ ∀ (i : Nat) (x : Int), ps[i]? = some x → cur[i]? = some (Value.int .u64 x)

theorem RowU.cell {w : World} {g : Nat} {ps : List Int} (h : RowU w g ps) {i : Nat} {x : Int} (hx : ps[i]? = some x) : w.cell? ⟨g, i, none⟩ = some (.int .u64 x) := by
  obtain ⟨cur, h1, h2⟩ := h
  rw [cell_of_row w g i _ _ _ h1]
  simp only [h2 i x hx]

theorem RowU.frozen {w : World} {g : Nat} {ps : List Int} (h : RowU w g ps) (i : Nat) : w.frozen? ⟨g, i, none⟩ = false := by
  obtain ⟨cur, h1, h2⟩ := h
  exact frozen_of_row w g i _ _ h1

theorem RowU.lt {w : World} {g : Nat} {ps : List Int} (h : RowU w g ps) : g < w.heap.size := by
  obtain ⟨cur, h1, h2⟩ := h
  exact lt_of_heap h1

theorem RowU.keep {G : Nat → Prop} {w w' : World} {g : Nat} {ps : List Int} (h : RowU w g ps) (hu : Upd G w w') (hg : ¬ G g) : RowU w' g ps := by
  have hl := h.lt
  obtain ⟨cur, h1, h2⟩ := h
  exact ⟨cur, (hu.block g hl hg).trans h1, h2⟩

theorem RowU.keeps {w w' : World} {g : Nat} {ps : List Int} (h : RowU w g ps) (hk : Keeps w w') : RowU w' g ps := h.keep (hk.upd (fun _ => False)) (fun h => h)

theorem RowU.words {w : World} {g : Nat} {ps : List Int} (h : RowU w g ps) (hr : ∀ x ∈ ps, 0 ≤ x ∧ x < 2 ^ 64) : WordsAt w (some ⟨g, 0, none⟩) ps := fun i x hx => ⟨hr x (List.mem_of_getElem? hx), g, 0, rfl, by rw [Nat.zero_add]; exact h.cell hx⟩

theorem RowU.set {w : World} {g : Nat} {ps : List Int} (h : RowU w g ps) (i : Nat) (y : Int) (hi : i < ps.length) : RowU (w.setCell ⟨g, i, none⟩ (.int .u64 y)) g (ps.set i y) := by
  obtain ⟨cur, h1, h2⟩ := h
  refine ⟨_, Go.heap_setCell_same w g i _ _ (.int .u64 y) h1, fun j x hx => ?_⟩
  rw [Array.getElem?_setIfInBounds]
  by_cases hj : i = j
  · subst hj
    have hc := h2 i ps[i] (by simp [hi])
    have hs : i < cur.size := (Array.getElem?_eq_some_iff.1 hc).1
    rw [if_pos rfl, if_pos hs]
    simp [hi] at hx
    rw [hx]
  · rw [if_neg hj]
    rw [List.getElem?_set_ne hj] at hx
    exact h2 j x hx

theorem info_u64 : (Tryz.prog.info? 84).map (fun i => (i.zero, i.size, i.bytes)) = some (some (.int .u64 0), 1, 8) := by kernel_rfl

end Go.Proofs.YtoeoehbpahodnaaGreat
