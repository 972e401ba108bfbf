/-
  How many ids; a store alone; plainly.
-/
import Derived.Test.YtiacdpoldgfpbaaPBuiltA
import Derived.Test.YtiacdpoldgfpbaaPSweepA
namespace Go.Proofs.Ytiacdpoldgfpbaa
set_option linter.unusedSimpArgs false
set_option linter.unusedVariables false
set_option maxHeartbeats 600000
open Go.RowKit

/-- As many ids as nodes. -/
theorem ids_len {F : Nat → Prop} {w : World} {sb : Nat} {M : St} (h : StoreRep F w sb M) : ((idsL M.cs).length : Int) = M.len := by
  have honce := h.once
  obtain ⟨⟨ab, ib, ts, Fa, Fi, h1, h2, h3, h4, h5, _⟩, _⟩ := h
  have huq := h3.ok.uniq
  have hl : (ts.filterMap (fun o => o.map Prod.snd)).length = occ ts := by
    rw [List.length_filterMap_eq_countP]
    unfold occ
    refine List.countP_congr (fun o _ => ?_)
    cases o <;> simp
  have hm : ∀ x, x ∈ ts.filterMap (fun o => o.map Prod.snd) ↔ x ∈ idsL M.cs := by
    intro x
    rw [idsL_mem, List.mem_filterMap]
    constructor
    · rintro ⟨o, ho, hx⟩
      cases o with
      | none => simp at hx
      | some p =>
        obtain ⟨r, id⟩ := p
        simp at hx
        subst hx
        obtain ⟨i, hi⟩ := List.getElem?_of_mem ho
        rw [(h5 r id).1 ⟨i, hi⟩]
        simp
    · intro hx
      cases hl : look M.cs x with
      | none => exact absurd hl hx
      | some r =>
        obtain ⟨i, hi⟩ := (h5 r x).2 hl
        exact ⟨_, List.mem_of_getElem? hi, rfl⟩
  have hn : (ts.filterMap (fun o => o.map Prod.snd)).Nodup := by
    unfold List.Nodup
    rw [List.pairwise_filterMap, List.pairwise_iff_getElem]
    intro i j hi hj hij x hx y hy e
    subst e
    cases hti : ts[i] with
    | none => rw [hti] at hx; simp at hx
    | some p =>
      cases htj : ts[j] with
      | none => rw [htj] at hy; simp at hy
      | some q =>
        rw [hti] at hx
        rw [htj] at hy
        obtain ⟨r, id⟩ := p
        obtain ⟨r', id'⟩ := q
        simp at hx hy
        subst hx
        subst hy
        have a1 : Tab.at ts i r id' := by unfold Tab.at; rw [List.getElem?_eq_getElem hi, hti]
        have a2 : Tab.at ts j r' id' := by unfold Tab.at; rw [List.getElem?_eq_getElem hj, htj]
        have e1 := (h5 r id').1 ⟨i, a1⟩
        have e2 := (h5 r' id').1 ⟨j, a2⟩
        rw [e1] at e2
        cases e2
        have := huq i j r id' id' a1 a2
        omega
  have e1 := nodup_len hn (fun x hx => (hm x).1 hx)
  have e2 := nodup_len (rising_nodup (idsFrom_rising M.cs 2)) (fun x hx => (hm x).2 hx)
  have e2' : (idsL M.cs).length ≤ (ts.filterMap (fun o => o.map Prod.snd)).length := e2
  omega

/-- What stays and what goes are all. -/
theorem part_len (M : St) (roots : List Int) : (reachL M.cs roots).length + (goneL M roots).length = (idsL M.cs).length := by
  have h1 : reachL M.cs roots = (idsL M.cs).filter (fun x => decide (x ∈ reachL M.cs roots)) := by
    refine rising_eq (reachL_rising _ _) (List.Pairwise.filter _ (idsFrom_rising M.cs 2)) (fun x => ?_)
    rw [List.mem_filter, idsL_mem]
    simp only [decide_eq_true_eq]
    exact ⟨fun hx => ⟨(mem_reachL.1 hx).some, hx⟩, fun hx => hx.2⟩
  have h2 : (reachL M.cs roots).length = (idsL M.cs).countP (fun x => decide (x ∈ reachL M.cs roots)) := by
    rw [List.countP_eq_length_filter, ← h1]
  have h3 : (goneL M roots).length = (idsL M.cs).countP (fun x => !decide (x ∈ reachL M.cs roots)) := by
    rw [List.countP_eq_length_filter]
    rfl
  rw [h2, h3, List.length_eq_countP_add_countP (p := fun x => decide (x ∈ reachL M.cs roots))]
  congr 1
  refine List.countP_congr (fun x _ => ?_)
  simp

/-- Behind a sweep, all ids are what is reached. -/
theorem ids_sweep (M : St) (roots : List Int) : idsL (sweepSt M roots).cs = reachL M.cs roots := by
  refine rising_eq (idsFrom_rising _ 2) (reachL_rising _ _) (fun x => ?_)
  show x ∈ idsL _ ↔ _
  rw [idsL_mem, mem_reachL]
  constructor
  · intro hx
    cases hl : look (sweepSt M roots).cs x with
    | none => exact absurd hl hx
    | some r => exact (look_sweep_some.1 hl).2
  · intro hx
    cases hl : look M.cs x with
    | none => exact absurd hl hx.some
    | some r => rw [look_sweep_some.2 ⟨hl, hx⟩]; simp

/-- A store, made of new blocks. -/
structure Alone (w0 w : World) (sb : Nat) (M : St) : Prop where
  ex : ∃ F, StoreRep F w sb M ∧ ∀ k, F k → w0.heap.size ≤ k
  keep : Keeps w0 w

theorem Alone.keeps {w0 w W : World} {sb : Nat} {M : St} (h : Alone w0 w sb M) (hk : Keeps w W) : Alone w0 W sb M := by
  obtain ⟨⟨F, h1, h2⟩, h3⟩ := h
  exact ⟨⟨F, h1.keeps hk, h2⟩, h3.trans hk⟩

theorem Alone.step {w0 w W : World} {sb : Nat} {M' : St} {F : Nat → Prop} (hk : Keeps w0 w) (hF : ∀ k, F k → w0.heap.size ≤ k) (hu : Upd F w W) (hS : StoreRep (Grow F w W) W sb M') : Alone w0 W sb M' := by
  refine ⟨⟨_, hS, fun k hk' => ?_⟩, hk.new hu hF⟩
  have := hk.size
  rcases hk' with h | h
  · exact hF k h
  · omega

theorem findSt_same {M : St} (h : M.once) {id : Int} {r : Rec} (hl : look M.cs id = some r) : M.idOf r = some id ∧ M.findSt r = M ∧ M.findId r = id ∧ M.findErr r = 0 := by
  have hi := (idOf_iff h r id).1 hl
  refine ⟨hi, ?_, ?_, ?_⟩
  · unfold St.findSt; rw [hi]
  · unfold St.findId; rw [hi]
  · unfold St.findErr; rw [hi]

theorem leads_good {M : St} (h : M.wf) {id : Int} {r : Rec} (hl : look M.cs id = some r) : M.leads r.form r.lo (r.bot + 1) = true ∧ M.leads r.form r.hi (r.bot + 1) = true := by
  have := h.good id r hl
  unfold St.bad at this
  simp only [Bool.or_eq_false_iff, Bool.not_eq_false'] at this
  exact ⟨this.1.2, this.2⟩

end Go.Proofs.Ytiacdpoldgfpbaa
