/-
  Get of an index.
-/
import Derived.Test.YtimffidpbcflaaaFind
import Derived.Test.YtimffidpbcflaaaTable
namespace Go.Proofs.Ytimffidpbcflaaa
set_option linter.unusedSimpArgs false
set_option linter.unusedVariables false
set_option maxHeartbeats 600000
open Go.RowKit

structure IndexRep (F : Nat → Prop) (w : World) (ib : Nat) (ts : Tab) (n : Int) : Prop where
  lies : ∃ tb cap, w.heap[ib]? = some (.cells #[.slice (some ⟨tb, 0, none⟩) ts.length cap, .int .i64 n] 134 (0, 0)) ∧
    w.ownsRow 0 136 9 (.slice (some ⟨tb, 0, none⟩) ts.length cap) ts.length (ts.flatMap slotVals) ∧ F tb
  own : F ib
  pow : ∃ p, ts.length = 2 ^ p
  least : 8 ≤ ts.length
  most : ts.length ≤ 4194304
  half : 2 * occ ts ≤ ts.length
  ok : TabOk homeN ts
  fit : ∀ r id, Tab.has ts r id → r.ok ∧ 0 ≤ id ∧ id ≤ 4294967295

/-- What is told of a slot. -/
def slotId : Option (Rec × Int) → Int
  | some (_, id) => id
  | none => 0

set_option maxRecDepth 100000 in
theorem iget_low (ib tb len cap k : Nat) (r x : Rec) (id : Int) (b : Bool) (w : World) (h0 : w.cell? ⟨ib, 0, none⟩ = some (.slice (some ⟨tb, 0, none⟩) len cap)) (h22 : len ≤ 4194304) (hk : k < len)
    (g0 : w.cell? ⟨tb, k * 9, none⟩ = some (.int .u8 x.form)) (g1 : w.cell? ⟨tb, k * 9 + 1, none⟩ = some (.int .u8 x.top)) (g2 : w.cell? ⟨tb, k * 9 + 2, none⟩ = some (.int .u8 x.bot))
    (g3 : w.cell? ⟨tb, k * 9 + 3, none⟩ = some (.int .u8 x.lo.tag)) (g4 : w.cell? ⟨tb, k * 9 + 4, none⟩ = some (.int .u32 x.lo.to)) (g5 : w.cell? ⟨tb, k * 9 + 5, none⟩ = some (.int .u8 x.hi.tag))
    (g6 : w.cell? ⟨tb, k * 9 + 6, none⟩ = some (.int .u32 x.hi.to)) (g7 : w.cell? ⟨tb, k * 9 + 7, none⟩ = some (.int .u32 id)) (g8 : w.cell? ⟨tb, k * 9 + 8, none⟩ = some (.bool b))
    (hfind : ∀ W, Keeps w W → Calls Try.prog 108 #[.pointer (some ⟨ib, 0, none⟩), .agg #[.int .u8 r.form, .int .u8 r.top, .int .u8 r.bot, .int .u8 r.lo.tag, .int .u32 r.lo.to, .int .u8 r.hi.tag, .int .u32 r.hi.to]] W fun e w' =>
      e = .returned (.int .i64 (k : Int)) ∧ Keeps W w') :
    Calls Try.prog 76 #[.pointer (some ⟨ib, 0, none⟩), .agg #[.int .u8 r.form, .int .u8 r.top, .int .u8 r.bot, .int .u8 r.lo.tag, .int .u32 r.lo.to, .int .u8 r.hi.tag, .int .u32 r.hi.to]] w fun e w' =>
      e = .returned (.tuple #[.int .u32 (if b then id else 0), .bool b]) ∧ Keeps w w' := by
  have hib : ib < w.heap.size := lt_of_cell h0
  have htb : tb < w.heap.size := lt_of_cell g0
  have hki : (k : Int) < (len : Int) := by omega
  have hn1 : w.heap.size + 1 ≠ ib := by omega
  have hn2 : w.heap.size + 1 ≠ tb := by omega
  have H := Lib.hid hfind
  clear hfind
  go_enter Try.func76, Try.ntmps76
  go_wp2
  go_region_held3 (fun w' => w'.cell? ⟨ib, 0, none⟩ = some (.slice (some ⟨tb, 0, none⟩) len cap) ∧ (w'.cell? ⟨w.heap.size, 0, none⟩ = some (.int .u8 r.form) ∧ w'.cell? ⟨w.heap.size, 1, none⟩ = some (.int .u8 r.top) ∧ w'.cell? ⟨w.heap.size, 2, none⟩ = some (.int .u8 r.bot) ∧ w'.cell? ⟨w.heap.size, 3, none⟩ = some (.int .u8 r.lo.tag) ∧ w'.cell? ⟨w.heap.size, 4, none⟩ = some (.int .u32 r.lo.to) ∧ w'.cell? ⟨w.heap.size, 5, none⟩ = some (.int .u8 r.hi.tag) ∧ w'.cell? ⟨w.heap.size, 6, none⟩ = some (.int .u32 r.hi.to)) ∧ (w'.cell? ⟨tb, k * 9, none⟩ = some (.int .u8 x.form) ∧ w'.cell? ⟨tb, k * 9 + 1, none⟩ = some (.int .u8 x.top) ∧ w'.cell? ⟨tb, k * 9 + 2, none⟩ = some (.int .u8 x.bot) ∧ w'.cell? ⟨tb, k * 9 + 3, none⟩ = some (.int .u8 x.lo.tag) ∧ w'.cell? ⟨tb, k * 9 + 4, none⟩ = some (.int .u32 x.lo.to) ∧ w'.cell? ⟨tb, k * 9 + 5, none⟩ = some (.int .u8 x.hi.tag) ∧ w'.cell? ⟨tb, k * 9 + 6, none⟩ = some (.int .u32 x.hi.to) ∧ w'.cell? ⟨tb, k * 9 + 7, none⟩ = some (.int .u32 id) ∧ w'.cell? ⟨tb, k * 9 + 8, none⟩ = some (.bool b))) (go_keep) ((first | (go_at_call 108; refine (H.out _ (by (repeat (first | with_reducible exact Keeps.refl _ | with_reducible assumption | with_reducible refine Keeps.alloc ?_ _ | with_reducible refine Keeps.drewN ?_ _ | with_reducible refine Keeps.drew ?_ | refine Keeps.setCell ?_ (by dsimp only; omega) _ | with_reducible refine Keeps.trans ?_ (by assumption))))).mono ?_; rintro e w1 ⟨rfl, hb⟩; obtain ⟨y0, y1, y2, y3, y4, y5, y6⟩ := box7 (w := w) (w1 := w1) (show Keeps (w.alloc (.cells #[.int .u8 r.form, .int .u8 r.top, .int .u8 r.bot, .int .u8 r.lo.tag, .int .u32 r.lo.to, .int .u8 r.hi.tag, .int .u32 r.hi.to] 106)) w1 by (repeat (first | with_reducible exact Keeps.refl _ | with_reducible assumption | with_reducible refine Keeps.alloc ?_ _ | with_reducible refine Keeps.drewN ?_ _ | with_reducible refine Keeps.drew ?_ | refine Keeps.setCell ?_ (by dsimp only; omega) _ | with_reducible refine Keeps.trans ?_ (by assumption)))); have hk : Keeps w w1 := (by (repeat (first | with_reducible exact Keeps.refl _ | with_reducible assumption | with_reducible refine Keeps.alloc ?_ _ | with_reducible refine Keeps.drewN ?_ _ | with_reducible refine Keeps.drew ?_ | refine Keeps.setCell ?_ (by dsimp only; omega) _ | with_reducible refine Keeps.trans ?_ (by assumption)))); obtain ⟨hc, hf⟩ := hb.cells; obtain ⟨hcl, hfl⟩ := hk.cells; have hsz := hb.size; (try simp only [World.size_alloc, World.size_drewN, World.size_drew, World.size_setCell] at hsz); have hsl := hk.size; have hz0 : w.heap.size < w1.heap.size := (by omega); have hn3 : w1.heap.size ≠ ib := (by omega); have hn4 : w1.heap.size ≠ tb := (by omega); have hn5 : w1.heap.size ≠ w.heap.size := (by omega))))
  all_goals cases b
  all_goals (go_wp2; go_ret2; exact ⟨rfl, by (repeat (first | with_reducible exact Keeps.refl _ | with_reducible assumption | with_reducible refine Keeps.alloc ?_ _ | with_reducible refine Keeps.drewN ?_ _ | with_reducible refine Keeps.drew ?_ | refine Keeps.setCell ?_ (by dsimp only; omega) _ | with_reducible refine Keeps.trans ?_ (by assumption)))⟩)

/-- What the walk wants of an index in memory. -/
theorem IndexRep.open {F : Nat → Prop} {w : World} {ib : Nat} {ts : Tab} {n : Int} (h : IndexRep F w ib ts n) :
    ∃ tb cap, w.cell? ⟨ib, 0, none⟩ = some (.slice (some ⟨tb, 0, none⟩) ts.length cap) ∧ w.cell? ⟨ib, 1, none⟩ = some (.int .i64 n) ∧ F tb ∧ ib ≠ tb ∧
      (∀ i c, ts[i]? = some c → ∀ j, j < 9 → w.cell? ⟨tb, i * 9 + j, none⟩ = (slotVals c)[j]?) ∧ (∀ j, w.frozen? ⟨tb, j, none⟩ = false) ∧ (∀ j, w.frozen? ⟨ib, j, none⟩ = false) := by
  obtain ⟨⟨tb, cap, h1, h2, h3⟩, _⟩ := h
  obtain ⟨cur, hcur⟩ := owns_type h2 (k := tb) rfl
  refine ⟨tb, cap, by rw [cell_of_row w ib 0 _ _ _ h1]; rfl, by rw [cell_of_row w ib 1 _ _ _ h1]; rfl, h3, (ne_of_type hcur h1 (by decide)).symm, fun i c hc j hj => ?_, fun j => h2.frozenAt j, fun j => frozen_of_row w ib j _ _ h1⟩
  have hi := (List.getElem?_eq_some_iff.1 hc).1
  rw [h2.cellAt (i * 9 + j) (by omega)]
  exact flat_get slotVals 9 slotVals_length ts i j c hc hj

theorem IndexRep.keep {F G : Nat → Prop} {w W : World} {ib : Nat} {ts : Tab} {n : Int} (h : IndexRep F w ib ts n) (hu : Upd G w W) (hd : ∀ k, F k → ¬ G k) : IndexRep F W ib ts n := by
  obtain ⟨⟨tb, cap, h1, h2, h3⟩, a1, a2, a3, a4, a5, a6, a7⟩ := h
  exact ⟨⟨tb, cap, (hu.block ib (lt_of_heap h1) (hd _ a1)).trans h1, hu.owns (fun k hk => by simp [Value.ownBlock] at hk; subst hk; exact hd _ h3) h2, h3⟩, a1, a2, a3, a4, a5, a6, a7⟩

theorem IndexRep.keeps {F : Nat → Prop} {w W : World} {ib : Nat} {ts : Tab} {n : Int} (h : IndexRep F w ib ts n) (hu : Keeps w W) : IndexRep F W ib ts n :=
  h.keep (hu.upd (fun _ => False)) (fun _ _ h => h)

theorem IndexRep.room {F : Nat → Prop} {w : World} {ib : Nat} {ts : Tab} {n : Int} (h : IndexRep F w ib ts n) : ∃ e : Nat, ts[e]? = some none :=
  occ_lt (by have := h.half; have := h.least; omega)

/-- find, of an index in memory. -/
theorem index_find {F : Nat → Prop} {w : World} {ib : Nat} {ts : Tab} {n : Int} (h : IndexRep F w ib ts n) (r : Rec) (hr : r.ok) (D : Nat) (hD : Ends homeN ts r D) :
    Calls Try.prog 108 #[.pointer (some ⟨ib, 0, none⟩), .agg #[.int .u8 r.form, .int .u8 r.top, .int .u8 r.bot, .int .u8 r.lo.tag, .int .u32 r.lo.to, .int .u8 r.hi.tag, .int .u32 r.hi.to]] w fun e w' => e = .returned (.int .i64 (((homeN r ts.length + D) % ts.length : Nat) : Int)) ∧ Keeps w w' := by
  obtain ⟨p, hp⟩ := h.pow
  obtain ⟨tb, cap, c0, c1, _, _, hv, _⟩ := h.open
  exact find_calls ib tb ts.length cap p D r hr ts w c0 h.least h.most hp hv rfl hD.lt hD.go hD.stop

end Go.Proofs.Ytimffidpbcflaaa
