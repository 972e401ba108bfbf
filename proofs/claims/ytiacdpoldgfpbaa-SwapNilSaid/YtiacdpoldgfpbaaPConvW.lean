/-
  The walk of convert.from: an edge to nothing, at the end, or kept.
-/
import Derived.Test.YtiacdpoldgfpbaaPConvM
import Derived.Test.YtiacdpoldgfpbaaPTableW
namespace Go.Proofs.Ytiacdpoldgfpbaa
set_option linter.unusedSimpArgs false
set_option linter.unusedVariables false
set_option maxHeartbeats 600000
open Go.RowKit

theorem kvAct_view {f : Int} (hf : 1 ≤ f ∧ f ≤ 5) {M : St} {e : Edge} {l : Int} : kvAct M f e l = viewAct M f e l := by
  have hff : f = 1 ∨ f = 2 ∨ f = 3 ∨ f = 4 ∨ f = 5 := by omega
  rcases hff with rfl | rfl | rfl | rfl | rfl <;> rfl

theorem upd_boxes {F : Nat → Prop} {w0 wc W : World} {fn : FuncId} {args : Array Value} {Q : Ending → World → Prop} {R : World → Prop} (hlt : ∀ k, F k → k < w0.heap.size) (hs : w0.heap.size ≤ wc.heap.size)
    (h : Calls Try.prog fn args W fun r w' => Q r w' ∧ Upd F W w' ∧ R w') :
    Calls Try.prog fn args W fun r w' => (Q r w' ∧ Upd F W w' ∧ R w') ∧ (∀ j o, wc.heap.size ≤ j → j < W.heap.size → w'.cell? ⟨j, o, none⟩ = W.cell? ⟨j, o, none⟩) ∧ (∀ j o, wc.heap.size ≤ j → j < W.heap.size → w'.frozen? ⟨j, o, none⟩ = W.frozen? ⟨j, o, none⟩) ∧ (∀ j, j < W.heap.size → j < w'.heap.size) ∧ (∀ j, j < W.heap.size → ¬ j = w'.heap.size) ∧ (∀ j, j < W.heap.size → ¬ w'.heap.size = j) := by
  refine h.mono fun r w' hh => ⟨hh, fun j o h1 h2 => ?_, fun j o h1 h2 => ?_, fun j hj => by have := hh.2.1.size; omega, fun j hj => by have := hh.2.1.size; omega, fun j hj => by have := hh.2.1.size; omega⟩
  · have := hh.2.1.block j h2 (fun hf => by have := hlt _ hf; omega)
    simp only [World.cell?, this]
  · exact World.frozen?_of_block (a := ⟨j, o, none⟩) (hh.2.1.block j h2 (fun hf => by have := hlt _ hf; omega))

structure Boxed2 (F : Nat → Prop) (w0 wy : World) (sb : Nat) (M1 : St) (B C : Nat) (lo hi : Edge) (F1 : Nat → Prop) : Prop where
  a0 : wy.cell? ⟨B, 0, none⟩ = some (.int .u8 lo.tag)
  a1 : wy.cell? ⟨B, 1, none⟩ = some (.int .u32 lo.to)
  c0 : wy.cell? ⟨C, 0, none⟩ = some (.int .u8 hi.tag)
  c1 : wy.cell? ⟨C, 1, none⟩ = some (.int .u32 hi.to)
  upd : Upd F w0 wy
  rep : StoreRep F1 wy sb M1
  sub : ∀ j, F1 j → F j ∨ w0.heap.size ≤ j
  nB : ¬ F1 B
  nC : ¬ F1 C
  gB : w0.heap.size ≤ B
  gC : w0.heap.size ≤ C

theorem Upd.later {F G : Nat → Prop} {a b c : World} (h : Upd F a b) (k : Upd G b c) (hG : ∀ i, i < a.heap.size → G i → F i) : Upd F a c :=
  ⟨k.os.trans h.os, k.tape.trans h.tape, k.output.trans h.output, Nat.le_trans h.size k.size, fun i hi hf => (k.block i (Nat.lt_of_lt_of_le hi h.size) (fun hg => hf (hG i hi hg))).trans (h.block i hi hf)⟩

theorem boxed2 {F : Nat → Prop} {w0 W w2 wy : World} {sb : Nat} {M1 : St} {B C : Nat} {lo hi : Edge} (hlt : ∀ k, F k → k < w0.heap.size) (hW : Keeps w0 W) (hu : Upd F W w2) (hS : StoreRep (Grow F W w2) w2 sb M1) (hG : Upd (fun k => k = B ∨ k = C) w2 wy)
    (hB : w0.heap.size ≤ B ∧ (B < W.heap.size ∨ w2.heap.size ≤ B)) (hC : w0.heap.size ≤ C ∧ (C < W.heap.size ∨ w2.heap.size ≤ C)) (a0 : wy.cell? ⟨B, 0, none⟩ = some (.int .u8 lo.tag)) (a1 : wy.cell? ⟨B, 1, none⟩ = some (.int .u32 lo.to))
    (c0 : wy.cell? ⟨C, 0, none⟩ = some (.int .u8 hi.tag)) (c1 : wy.cell? ⟨C, 1, none⟩ = some (.int .u32 hi.to)) : Boxed2 F w0 wy sb M1 B C lo hi (Grow F W w2) := by
  have hs1 := hW.size
  have no : ∀ X, (w0.heap.size ≤ X ∧ (X < W.heap.size ∨ w2.heap.size ≤ X)) → ¬ Grow F W w2 X := fun X hX hg => by
    rcases hg with hg | hg
    · have := hlt _ hg; omega
    · omega
  refine ⟨a0, a1, c0, c1, ((Keeps.upd hW F).trans' hu).later hG (fun i hi hg => ?_), hS.keep hG (fun k hk hg => ?_), fun j hj => ?_, no B hB, no C hC, hB.1, hC.1⟩
  · rcases hg with rfl | rfl <;> omega
  · rcases hg with rfl | rfl
    · exact no _ hB hk
    · exact no _ hC hk
  · rcases hj with hj | hj
    · exact .inl hj
    · exact .inr (by omega)

section
variable {F : Nat → Prop} {w : World} {sb wb b : Nat} {f g : Int} {M : St} {V : List (Edge × Int)} {D : DataW Unit}

theorem updR {R : Nat} {x y : World} (h : Upd (fun j => j = R) x y) (o : Nat) (v : Value) : Upd (fun j => j = R) x (y.setCell ⟨R, o, none⟩ v) := h.setCell (Or.inl rfl) v

theorem findSt_ext {M : St} (h : M.wf) (r : Rec) : Ext M (M.findSt r) := by
  cases hi : M.idOf r with
  | some id =>
    rw [(find_old h (idOf_look hi)).2.2]
    exact Ext.refl M
  | none =>
    cases hb : M.bad r with
    | true =>
      have : M.findSt r = M := by unfold St.findSt; rw [hi]; simp [hb]
      rw [this]
      exact Ext.refl M
    | false =>
      by_cases he : M.findErr r = 0
      · exact (find_zero h hb he).2.1
      · rw [(find_full hb he).2.1]
        exact Ext.refl M

theorem act_ext {M : St} (h : M.wf) (a : (Edge × Int) ⊕ Rec) : Ext M (actSt M a) := by
  cases a with
  | inl x => exact Ext.refl M
  | inr r => exact findSt_ext h r

theorem ConvCtx.put {F : Nat → Prop} {W W' : World} {sb wb b : Nat} {f g : Int} {M : St} {V : List (Edge × Int)} {D : DataW Unit} (h : ConvCtx F W sb wb b f g M V D) {e x : Edge} {l : Int} (hu : Upd (fun k => k = b) W W') (hown : W'.ownsMap Try.prog 104 edgeElem b (V.length + 1) (D.put (placeL e l) (edgeD x)))
    (he : e.ok) (h0 : 0 ≤ l) (h1 : l ≤ 16) (hl : M.leads f e l = true) (hp : (e, l) ∉ V) (hx : GoodC f g M e l x) : ConvCtx F W' sb wb b f g M (V ++ [(e, l)]) (D.put (placeL e l) (edgeD x)) := by
  refine ⟨h.rep.keep hu (fun k hk e => by subst e; exact h.nF hk), hu.cellAt (h.neCell h.c0) h.c0, hu.cellAt (h.neCell h.c0) h.c1, hu.cellAt (h.neCell h.c0) h.c2, hu.cellAt (h.neCell h.c0) h.c3, h.nF, h.nW, ?_, h.memo.put he h0 h1 hl hp hx⟩
  rw [List.length_append]
  exact hown

end

end Go.Proofs.Ytiacdpoldgfpbaa
