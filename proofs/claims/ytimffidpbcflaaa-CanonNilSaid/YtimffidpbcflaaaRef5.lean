/-
  The document's store over the same state: how it lies in memory, At, Has, Leads, Find.
-/
import Derived.Test.YtimffidpbcflaaaRef4
namespace Go.Proofs.Ytimffidpbcflaaa
set_option linter.unusedSimpArgs false
set_option linter.unusedVariables false
set_option maxHeartbeats 600000
open Go.RowKit

structure RefRep (F : Nat → Prop) (w : World) (mb : Nat) (M : St) (L : List (Int × Rec)) : Prop where
  lies : ∃ lv gv, w.heap[mb]? = some (.cells #[lv, gv, .int .u32 (M.cs.length : Int), .int .i64 M.n, .int .i64 M.room] 83 (0, 0)) ∧
    w.ownsRow 0 87 8 lv L.length (L.flatMap nodeVals) ∧ w.ownsRow 0 23 1 gv M.gone.length (M.gone.map (Value.int .u32)) ∧
    (∀ k, lv.ownBlock = some k → F k) ∧ (∀ k, gv.ownBlock = some k → F k)
  own : F mb
  lt : ∀ k, F k → k < w.heap.size
  wf : M.wf
  mem : ∀ id r, (id, r) ∈ L ↔ look M.cs id = some r
  ids : (L.map Prod.fst).Nodup
  len : (L.length : Int) = M.len
  few : M.cs.length ≤ 1048576
  fit : ∀ p ∈ L, p.2.ok

theorem RefRep.keep {F G : Nat → Prop} {w W : World} {mb : Nat} {M : St} {L : List (Int × Rec)} (h : RefRep F w mb M L) (hu : Upd G w W) (hd : ∀ k, F k → ¬ G k) : RefRep F W mb M L := by
  obtain ⟨⟨lv, gv, h1, h2, h3, h4, h5⟩, a1, a2, a3⟩ := h
  exact ⟨⟨lv, gv, (hu.block mb (lt_of_heap h1) (hd _ a1)).trans h1, hu.owns (fun k hk => hd _ (h4 k hk)) h2, hu.owns (fun k hk => hd _ (h5 k hk)) h3, h4, h5⟩, a1, fun k hk => Nat.lt_of_lt_of_le (a2 k hk) hu.size, a3, by assumption, by assumption, by assumption, by assumption, by assumption⟩

theorem RefRep.keeps {F : Nat → Prop} {w W : World} {mb : Nat} {M : St} {L : List (Int × Rec)} (h : RefRep F w mb M L) (hu : Keeps w W) : RefRep F W mb M L :=
  h.keep (hu.upd (fun _ => False)) (fun _ _ h => h)

theorem RefRep.le {F : Nat → Prop} {w : World} {mb : Nat} {M : St} {L : List (Int × Rec)} (h : RefRep F w mb M L) : L.length ≤ 1048576 := by
  have h1 := h.len
  have h2 := h.wf.full
  have h3 := h.wf.room1
  omega

theorem RefRep.mono {F G : Nat → Prop} {w : World} {mb : Nat} {M : St} {L : List (Int × Rec)} (h : RefRep F w mb M L) (hg : ∀ k, F k → G k) (hl : ∀ k, G k → k < w.heap.size) : RefRep G w mb M L := by
  obtain ⟨⟨lv, gv, h1, h2, h3, h4, h5⟩, a1, a2, a3, a4, a5, a6, a7, a8⟩ := h
  exact ⟨⟨lv, gv, h1, h2, h3, fun k hk => hg k (h4 k hk), fun k hk => hg k (h5 k hk)⟩, hg _ a1, hl, a3, a4, a5, a6, a7, a8⟩

theorem RefRep.cell {F : Nat → Prop} {w : World} {mb : Nat} {M : St} {L : List (Int × Rec)} (h : RefRep F w mb M L) :
    ∃ a cap, w.cell? ⟨mb, 0, none⟩ = some (.slice a L.length cap) ∧ (L.length ≠ 0 → ∃ lb, a = some ⟨lb, 0, none⟩ ∧ F lb ∧
      (∀ i p, L[i]? = some p → ∀ j, j < 8 → w.cell? ⟨lb, i * 8 + j, none⟩ = (nodeVals p)[j]?)) := by
  obtain ⟨⟨lv, gv, h1, h2, h3, h4, h5⟩, -⟩ := h
  obtain ⟨a, cap, rfl, hs⟩ := owns_slice h2
  refine ⟨a, cap, by rw [cell_of_row w mb 0 _ _ _ h1]; rfl, fun hn => ?_⟩
  obtain ⟨lb, rfl⟩ := hs hn
  refine ⟨lb, rfl, h4 lb rfl, fun i c hc j hj => ?_⟩
  have hi := (List.getElem?_eq_some_iff.1 hc).1
  rw [h2.cellAt (i * 8 + j) (by omega)]
  exact flat_get nodeVals 8 nodeVals_length L i j c hc hj

/-- The place of an id. -/
def atI (L : List (Int × Rec)) (id : Int) : Int := if L.findIdx (fun p => decide (p.1 = id)) < L.length then (L.findIdx (fun p => decide (p.1 = id)) : Int) else -1

theorem ref_at {F : Nat → Prop} {w : World} {mb : Nat} {M : St} {L : List (Int × Rec)} (h : RefRep F w mb M L) (id : Int) :
    Calls Try.prog 60 #[.pointer (some ⟨mb, 0, none⟩), .int .u32 id] w fun e w' => e = .returned (.int .i64 (atI L id)) ∧ w = w' := by
  obtain ⟨a, cap, c0, hc⟩ := h.cell
  refine ref_at_low mb a L.length cap (L.findIdx (fun p => decide (p.1 = id))) id (fun i => (L[i]?.getD (0, Rec.zero)).1) w c0 h.le ?_ List.findIdx_le_length ?_ ?_
  · intro i hi
    obtain ⟨lb, rfl, _, hv⟩ := hc (by omega)
    refine ⟨lb, rfl, ?_⟩
    have := hv i _ (List.getElem?_eq_getElem hi) 0 (by omega)
    rw [Nat.add_zero] at this
    rw [this, List.getElem?_eq_getElem hi]
    rfl
  · intro d hd
    have hl : d < L.length := Nat.lt_of_lt_of_le hd List.findIdx_le_length
    have := List.not_of_lt_findIdx hd
    rw [List.getElem?_eq_getElem hl]
    simpa using this
  · intro hD
    have := List.findIdx_getElem (w := hD)
    rw [List.getElem?_eq_getElem hD]
    simpa using this

theorem ref_has {F : Nat → Prop} {w : World} {mb : Nat} {M : St} {L : List (Int × Rec)} (h : RefRep F w mb M L) (r : Rec) :
    Calls Try.prog 98 #[.pointer (some ⟨mb, 0, none⟩), .agg #[.int .u8 r.form, .int .u8 r.top, .int .u8 r.bot, .int .u8 r.lo.tag, .int .u32 r.lo.to, .int .u8 r.hi.tag, .int .u32 r.hi.to]] w fun e w' => e = .returned (.int .u32 ((M.idOf r).getD 0)) ∧ Keeps w w' := by
  obtain ⟨a, cap, c0, hc⟩ := h.cell
  have hD := fun (hD : L.findIdx (fun p => decide (p.2 = r)) < L.length) => List.findIdx_getElem (w := hD)
  have hval : (M.idOf r).getD 0 = if L.findIdx (fun p => decide (p.2 = r)) < L.length then (L[L.findIdx (fun p => decide (p.2 = r))]?.getD (0, Rec.zero)).1 else 0 := by
    by_cases hlt : L.findIdx (fun p => decide (p.2 = r)) < L.length
    · rw [if_pos hlt, List.getElem?_eq_getElem hlt]
      have h2 : (L[L.findIdx (fun p => decide (p.2 = r))]).2 = r := by simpa using hD hlt
      have h3 := (h.mem (L[L.findIdx (fun p => decide (p.2 = r))]).1 r).1 (by
        have := List.getElem_mem hlt
        rwa [show L[L.findIdx (fun p => decide (p.2 = r))] = ((L[L.findIdx (fun p => decide (p.2 = r))]).1, r) from Prod.ext rfl h2] at this)
      rw [(idOf_iff h.wf.once r _).1 h3]
      rfl
    · rw [if_neg hlt]
      cases hi : M.idOf r with
      | none => rfl
      | some id =>
        exfalso
        have := (h.mem id r).2 (idOf_look hi)
        exact hlt (List.findIdx_lt_length.2 ⟨_, this, by simp⟩)
  rw [hval]
  refine ref_has_low mb a L.length cap (L.findIdx (fun p => decide (p.2 = r))) r (fun i => (L[i]?.getD (0, Rec.zero)).1) (fun i => (L[i]?.getD (0, Rec.zero)).2) w c0 h.le ?_ List.findIdx_le_length ?_ ?_
  · intro i hi
    obtain ⟨lb, rfl, _, hv⟩ := hc (by omega)
    refine ⟨lb, rfl, fun j hj => ?_⟩
    rw [hv i _ (List.getElem?_eq_getElem hi) j hj, List.getElem?_eq_getElem hi]
    rfl
  · intro d hd
    have hl : d < L.length := Nat.lt_of_lt_of_le hd List.findIdx_le_length
    have := List.not_of_lt_findIdx hd
    rw [List.getElem?_eq_getElem hl]
    simpa using this
  · intro hlt
    rw [List.getElem?_eq_getElem hlt]
    simpa using hD hlt

/-- The place of an id tells its record. -/
theorem atI_look {F : Nat → Prop} {w : World} {mb : Nat} {M : St} {L : List (Int × Rec)} (h : RefRep F w mb M L) (id : Int) :
    (∃ r, look M.cs id = some r ∧ ∃ D : Nat, L[D]? = some (id, r) ∧ D = L.findIdx (fun p => decide (p.1 = id)) ∧ D < L.length ∧ atI L id = (D : Int)) ∨ (look M.cs id = none ∧ ¬ L.findIdx (fun p => decide (p.1 = id)) < L.length ∧ atI L id = -1) := by
  by_cases hlt : L.findIdx (fun p => decide (p.1 = id)) < L.length
  · left
    have h1 : (L[L.findIdx (fun p => decide (p.1 = id))]).1 = id := by simpa using List.findIdx_getElem (w := hlt)
    have h2 := (h.mem id (L[L.findIdx (fun p => decide (p.1 = id))]).2).1 (by
        have := List.getElem_mem hlt
        rwa [show L[L.findIdx (fun p => decide (p.1 = id))] = (id, (L[L.findIdx (fun p => decide (p.1 = id))]).2) from Prod.ext h1 rfl] at this)
    refine ⟨_, h2, _, ?_, rfl, hlt, by unfold atI; rw [if_pos hlt]⟩
    rw [List.getElem?_eq_getElem hlt]
    exact congrArg some (Prod.ext h1 rfl)
  · right
    refine ⟨?_, hlt, by unfold atI; rw [if_neg hlt]⟩
    cases hl : look M.cs id with
    | none => rfl
    | some r =>
      exact (hlt (List.findIdx_lt_length.2 ⟨_, (h.mem id r).2 hl, by simp⟩)).elim

theorem ref_leads {F : Nat → Prop} {w : World} {mb : Nat} {M : St} {L : List (Int × Rec)} (h : RefRep F w mb M L) (f : Int) (e : Edge) (l : Int) (he : e.ok) :
    Calls Try.prog 22 #[.pointer (some ⟨mb, 0, none⟩), .int .u8 f, .agg #[.int .u8 e.tag, .int .u32 e.to], .int .i64 l] w fun r w' => r = .returned (.bool (M.leads f e l)) ∧ Keeps w w' := by
  obtain ⟨a, cap, c0, hc⟩ := h.cell
  have hfit := h.fit
  have hle := h.le
  have hat := fun (W : World) (hW : Keeps w W) => ref_at (h.keeps hW) e.to
  have hloc := atI_look h e.to
  obtain ⟨⟨lv, gv, h1, -⟩, -⟩ := h
  have c3 : w.cell? ⟨mb, 3, none⟩ = some (.int .i64 M.n) := by rw [cell_of_row w mb 3 _ _ _ h1]; rfl
  unfold atI at hat
  rcases hloc with ⟨r, hl, D, hD, rfl, hlt, -⟩ | ⟨hl, hlt, -⟩
  · have hr : r.ok := hfit _ (List.mem_of_getElem? hD)
    refine (rleads_low mb f e.tag e.to l M.n a L.length cap _ r w he.1.1 he.1.2 hr hle c3 c0 hat (fun _ => ?_)).mono ?_
    · obtain ⟨lb, rfl, _, hv⟩ := hc (by omega)
      refine ⟨lb, rfl, fun j hj => ?_⟩
      rw [hv _ _ hD (1 + j) (by omega), Nat.add_comm 1 j]
      rfl
    · rintro r' w' ⟨rfl, hk⟩
      refine ⟨?_, hk⟩
      congr 2
      unfold St.leads
      rw [hl]
      simp [hlt]
  · refine (rleads_low mb f e.tag e.to l M.n a L.length cap _ Rec.zero w he.1.1 he.1.2 Rec.zero_ok hle c3 c0 hat (fun h => (hlt h).elim)).mono ?_
    rintro r' w' ⟨rfl, hk⟩
    refine ⟨?_, hk⟩
    congr 2
    unfold St.leads
    rw [hl]
    simp [hlt]

end Go.Proofs.Ytimffidpbcflaaa
