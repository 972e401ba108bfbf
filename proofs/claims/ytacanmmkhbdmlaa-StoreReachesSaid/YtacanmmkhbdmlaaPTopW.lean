/-
  store.Top over the state.
-/
import Derived.Test.YtacanmmkhbdmlaaPLeads
namespace Go.Proofs.Ytacanmmkhbdmlaa
set_option linter.unusedSimpArgs false
set_option linter.unusedVariables false
set_option maxHeartbeats 600000
open Go.RowKit

/-- The level of an edge's node. -/
def topI (M : St) (e : Edge) : Int := if e.to < 2 then M.n else if gsome (look M.cs e.to) then (grec (look M.cs e.to)).top else -1

theorem store_top {F : Nat → Prop} {w : World} {sb : Nat} {M : St} (h : StoreRep F w sb M) (e : Edge) (he : e.ok) :
    Calls Try.prog 45 #[.pointer (some ⟨sb, 0, none⟩), .agg #[.int .u8 e.tag, .int .u32 e.to]] w fun r w' => r = .returned (.int .i64 (topI M e)) ∧ Keeps w w' := by
  have hx := h.grec e.to
  unfold topI
  obtain ⟨⟨ab, ib, ts, Fa, Fi, h1, h2, -⟩, -⟩ := h
  have c0 : w.cell? ⟨sb, 0, none⟩ = some (.int .i64 M.n) := by rw [cell_of_row w sb 0 _ _ _ h1]; rfl
  have c1 : w.cell? ⟨sb, 1, none⟩ = some (.pointer (some ⟨ab, 0, none⟩)) := by rw [cell_of_row w sb 1 _ _ _ h1]; rfl
  have hsb : sb < w.heap.size := lt_of_cell c0
  have hsb1 : sb < w.heap.size + 1 := by omega
  have hg := fun (W : World) (hW : Keeps w W) => arena_get (h2.keeps hW) e.to he.2.2
  have t0 : 0 ≤ e.to := he.2.1
  have t1 : e.to ≤ 4294967295 := he.2.2
  obtain ⟨r, hr⟩ : ∃ r, r = grec (look M.cs e.to) := ⟨_, rfl⟩
  obtain ⟨b, hb⟩ : ∃ b, b = gsome (look M.cs e.to) := ⟨_, rfl⟩
  simp only [← hr, ← hb] at hg hx ⊢
  have r0 : 0 ≤ r.top := hx.top.1
  have r1 : r.top ≤ 255 := hx.top.2
  have HG := Lib.hid hg
  have hn1 : w.heap.size + 1 ≠ sb := by omega
  have hn2 : w.heap.size + 1 ≠ w.heap.size := by omega
  have hn3 : w.heap.size ≠ sb := by omega
  clear h1 h2 hg hr hb hx
  by_cases ht : e.to < 2
  · rw [if_pos ht]
    go_enter Try.func45, Try.ntmps45
    go_wp2_with fail
    go_ret
    exact ⟨rfl, by (repeat (first | with_reducible exact Keeps.refl _ | with_reducible assumption | with_reducible refine Keeps.alloc ?_ _ | with_reducible refine Keeps.drewN ?_ _ | with_reducible refine Keeps.drew ?_ | refine Keeps.setCell ?_ (by dsimp only; omega) _ | with_reducible refine Keeps.trans ?_ (by assumption)))⟩
  · rw [if_neg ht]
    go_enter Try.func45, Try.ntmps45
    go_wp2_with fail
    obtain ⟨w1, hw1⟩ : ∃ w1, w1 = w.alloc (.cells #[.int .u8 e.tag, .int .u32 e.to] 35) := ⟨_, rfl⟩
    have HK : Hid (Keeps w w1) := Lib.hid (by rw [hw1]; exact (Keeps.refl _).alloc _)
    have z0 : w1.cell? ⟨w.heap.size, 0, none⟩ = some (.int .u8 e.tag) := by rw [hw1]; simp
    have z1 : w1.cell? ⟨w.heap.size, 1, none⟩ = some (.int .u32 e.to) := by rw [hw1]; simp
    have d1 := HK.out.cell c1
    have hwlt : w.heap.size < w1.heap.size := by rw [hw1]; simp
    rw [← hw1]
    clear hw1 c0 c1
    have hsb1 : sb < w1.heap.size := by omega
    have hn2 : w1.heap.size ≠ sb := by omega
    have hn3 : w1.heap.size ≠ w.heap.size := by omega
    cases b
    all_goals
      go_region_held3 (fun w' => w'.cell? ⟨sb, 1, none⟩ = some (.pointer (some ⟨ab, 0, none⟩)) ∧ w'.cell? ⟨w.heap.size, 0, none⟩ = some (.int .u8 e.tag) ∧ w'.cell? ⟨w.heap.size, 1, none⟩ = some (.int .u32 e.to)) (go_keep) ((first | (go_at_call 77; have hkk := HK.out; refine (HG.out _ (by (repeat (first | with_reducible exact Keeps.refl _ | with_reducible assumption | with_reducible refine Keeps.alloc ?_ _ | with_reducible refine Keeps.drewN ?_ _ | with_reducible refine Keeps.drew ?_ | refine Keeps.setCell ?_ (by dsimp only; omega) _ | with_reducible refine Keeps.trans ?_ (by assumption))))).mono ?_; rintro e' w2 ⟨rfl, hb⟩; obtain ⟨hc, hf⟩ := hb.cells; have k2 : Keeps w1 w2 := (by (repeat (first | with_reducible exact Keeps.refl _ | with_reducible assumption | with_reducible refine Keeps.alloc ?_ _ | with_reducible refine Keeps.drewN ?_ _ | with_reducible refine Keeps.drew ?_ | refine Keeps.setCell ?_ (by dsimp only; omega) _ | with_reducible refine Keeps.trans ?_ (by assumption)))); have v0 := k2.cell z0; have v1 := k2.cell z1; have v2 := k2.cell d1; have hsz2 := k2.size; have hn4 : w2.heap.size ≠ sb := (by omega); have hn5 : w2.heap.size ≠ w.heap.size := (by omega); have hz6 : w.heap.size < w2.heap.size := (by omega))))
      all_goals go_wp2
      all_goals (go_ret; have hkk := HK.out; exact ⟨rfl, by (repeat (first | with_reducible exact Keeps.refl _ | with_reducible assumption | with_reducible refine Keeps.alloc ?_ _ | with_reducible refine Keeps.drewN ?_ _ | with_reducible refine Keeps.drew ?_ | refine Keeps.setCell ?_ (by dsimp only; omega) _ | with_reducible refine Keeps.trans ?_ (by assumption)))⟩)

end Go.Proofs.Ytacanmmkhbdmlaa
