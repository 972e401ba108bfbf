/-
  How a store lies in memory; the walks of its small functions.
-/
import Derived.Test.YtiacdpoldgfpbaaPIPut
import Derived.Test.YtiacdpoldgfpbaaPStA
namespace Go.Proofs.Ytiacdpoldgfpbaa
set_option linter.unusedSimpArgs false
set_option linter.unusedVariables false
set_option maxHeartbeats 600000
open Go.RowKit

structure StoreRep (F : Nat → Prop) (w : World) (sb : Nat) (M : St) : Prop where
  lies : ∃ ab ib ts Fa Fi, w.heap[sb]? = some (.cells #[.int .i64 M.n, .pointer (some ⟨ab, 0, none⟩), .pointer (some ⟨ib, 0, none⟩)] 146 (0, 0)) ∧
    ArenaRep Fa w ab M.cs M.gone M.len M.room ∧ IndexRep Fi w ib ts M.len ∧ M.len = (occ ts : Int) ∧ (∀ r id, Tab.has ts r id ↔ look M.cs id = some r) ∧
    (∀ k, Fa k → F k) ∧ (∀ k, Fi k → F k) ∧ (∀ k, Fa k → ¬ Fi k) ∧ ¬ Fa sb ∧ ¬ Fi sb
  own : F sb
  lt : ∀ k, F k → k < w.heap.size
  wf : M.wf

theorem StoreRep.keep {F G : Nat → Prop} {w W : World} {sb : Nat} {M : St} (h : StoreRep F w sb M) (hu : Upd G w W) (hd : ∀ k, F k → ¬ G k) : StoreRep F W sb M := by
  obtain ⟨⟨ab, ib, ts, Fa, Fi, h1, h2, h3, h4, h5, h6, h7, h8⟩, a1, a2, a3⟩ := h
  exact ⟨⟨ab, ib, ts, Fa, Fi, (hu.block sb (lt_of_heap h1) (hd _ a1)).trans h1, h2.keep hu (fun k hk => hd _ (h6 k hk)), h3.keep hu (fun k hk => hd _ (h7 k hk)), h4, h5, h6, h7, h8⟩, a1, fun k hk => Nat.lt_of_lt_of_le (a2 k hk) hu.size, a3⟩

theorem StoreRep.keeps {F : Nat → Prop} {w W : World} {sb : Nat} {M : St} (h : StoreRep F w sb M) (hu : Keeps w W) : StoreRep F W sb M :=
  h.keep (hu.upd (fun _ => False)) (fun _ _ h => h)

theorem StoreRep.once {F : Nat → Prop} {w : World} {sb : Nat} {M : St} (h : StoreRep F w sb M) : M.once := h.wf.once

/-- What is looked up is a record that fits. -/
theorem StoreRep.fit {F : Nat → Prop} {w : World} {sb : Nat} {M : St} (h : StoreRep F w sb M) {id : Int} {r : Rec} (hl : look M.cs id = some r) : r.ok := by
  obtain ⟨⟨ab, ib, ts, Fa, Fi, h1, h2, _⟩, _⟩ := h
  obtain ⟨_, _, h4⟩ := look_some hl
  exact h2.fit r (List.mem_of_getElem? h4)

theorem Rec.zero_ok : Rec.zero.ok := ⟨by decide, by decide, by decide, ⟨by decide, by decide⟩, ⟨by decide, by decide⟩⟩

theorem StoreRep.grec {F : Nat → Prop} {w : World} {sb : Nat} {M : St} (h : StoreRep F w sb M) (id : Int) : (grec (look M.cs id)).ok := by
  cases hl : look M.cs id with
  | none => exact Rec.zero_ok
  | some r => exact h.fit hl

theorem store_len {F : Nat → Prop} {w : World} {sb : Nat} {M : St} (h : StoreRep F w sb M) :
    Calls Try.prog 56 #[.pointer (some ⟨sb, 0, none⟩)] w fun e w' => e = .returned (.int .i64 M.len) ∧ w = w' := by
  obtain ⟨⟨ab, ib, ts, Fa, Fi, h1, h2, -⟩, -⟩ := h
  have c1 : w.cell? ⟨sb, 1, none⟩ = some (.pointer (some ⟨ab, 0, none⟩)) := by rw [cell_of_row w sb 1 _ _ _ h1]; rfl
  have H := Lib.hid (arena_len h2)
  clear h1 h2
  go_enter Try.func56, Try.ntmps56
  go_wp2_with (go_at_call 101; refine H.out.mono ?_; rintro e w' ⟨rfl, rfl⟩)
  go_ret
  exact ⟨rfl, rfl⟩

theorem store_room {F : Nat → Prop} {w : World} {sb : Nat} {M : St} (h : StoreRep F w sb M) :
    Calls Try.prog 57 #[.pointer (some ⟨sb, 0, none⟩)] w fun e w' => e = .returned (.int .i64 M.room) ∧ w = w' := by
  obtain ⟨⟨ab, ib, ts, Fa, Fi, h1, h2, -⟩, -⟩ := h
  have c1 : w.cell? ⟨sb, 1, none⟩ = some (.pointer (some ⟨ab, 0, none⟩)) := by rw [cell_of_row w sb 1 _ _ _ h1]; rfl
  have H := Lib.hid (arena_room h2)
  clear h1 h2
  go_enter Try.func57, Try.ntmps57
  go_wp2_with (go_at_call 102; refine H.out.mono ?_; rintro e w' ⟨rfl, rfl⟩)
  go_ret
  exact ⟨rfl, rfl⟩

theorem store_vars {F : Nat → Prop} {w : World} {sb : Nat} {M : St} (h : StoreRep F w sb M) :
    Calls Try.prog 50 #[.pointer (some ⟨sb, 0, none⟩)] w fun e w' => e = .returned (.int .i64 M.n) ∧ w = w' := by
  obtain ⟨⟨ab, ib, ts, Fa, Fi, h1, h2, -⟩, -⟩ := h
  have c1 : w.cell? ⟨sb, 0, none⟩ = some (.int .i64 M.n) := by rw [cell_of_row w sb 0 _ _ _ h1]; rfl
  clear h1 h2
  go_enter Try.func50, Try.ntmps50
  go_wp2
  go_ret
  exact ⟨rfl, rfl⟩

theorem store_get {F : Nat → Prop} {w : World} {sb : Nat} {M : St} (h : StoreRep F w sb M) (id : Int) (hid : id ≤ 4294967295) :
    Calls Try.prog 46 #[.pointer (some ⟨sb, 0, none⟩), .int .u32 id] w fun e w' =>
      e = .returned (.tuple #[.agg #[.int .u8 (grec (look M.cs id)).form, .int .u8 (grec (look M.cs id)).top, .int .u8 (grec (look M.cs id)).bot, .int .u8 (grec (look M.cs id)).lo.tag, .int .u32 (grec (look M.cs id)).lo.to, .int .u8 (grec (look M.cs id)).hi.tag, .int .u32 (grec (look M.cs id)).hi.to], .bool (gsome (look M.cs id))]) ∧ Keeps w w' := by
  obtain ⟨⟨ab, ib, ts, Fa, Fi, h1, h2, -⟩, -⟩ := h
  have c1 : w.cell? ⟨sb, 1, none⟩ = some (.pointer (some ⟨ab, 0, none⟩)) := by rw [cell_of_row w sb 1 _ _ _ h1]; rfl
  have hsb := lt_of_heap h1
  have H := Lib.hid h2
  clear h1 h2
  go_enter Try.func46, Try.ntmps46
  go_wp2_with (go_at_call 85; refine (arena_get (H.out.keeps (by (repeat (first | with_reducible exact Keeps.refl _ | with_reducible assumption | with_reducible refine Keeps.alloc ?_ _ | with_reducible refine Keeps.drewN ?_ _ | with_reducible refine Keeps.drew ?_ | refine Keeps.setCell ?_ (by dsimp only; omega) _ | with_reducible refine Keeps.trans ?_ (by assumption))))) id hid).mono ?_; rintro e w1 ⟨rfl, hb⟩; obtain ⟨y0, y1, y2, y3, y4, y5, y6⟩ := box7 (w := w) (w1 := w1) hb; have hk : Keeps w w1 := (by (repeat (first | with_reducible exact Keeps.refl _ | with_reducible assumption | with_reducible refine Keeps.alloc ?_ _ | with_reducible refine Keeps.drewN ?_ _ | with_reducible refine Keeps.drew ?_ | refine Keeps.setCell ?_ (by dsimp only; omega) _ | with_reducible refine Keeps.trans ?_ (by assumption)))); obtain ⟨hc, hf⟩ := hb.cells; obtain ⟨hcl, hfl⟩ := hk.cells; have hsz := hb.size; (try simp only [World.size_alloc, World.size_drewN, World.size_drew, World.size_setCell] at hsz); have hsl := hk.size; have hz0 : w.heap.size < w1.heap.size := (by omega))
  refine bodyPost_ret (v := .tuple #[.agg #[.int .u8 (grec (look M.cs id)).form, .int .u8 (grec (look M.cs id)).top, .int .u8 (grec (look M.cs id)).bot, .int .u8 (grec (look M.cs id)).lo.tag, .int .u32 (grec (look M.cs id)).lo.to, .int .u8 (grec (look M.cs id)).hi.tag, .int .u32 (grec (look M.cs id)).hi.to], .bool (gsome (look M.cs id))]) (by simp [results, Try.results46, go_sem, y0, y1, y2, y3, y4, y5, y6]) rfl ⟨rfl, by (repeat (first | with_reducible exact Keeps.refl _ | with_reducible assumption | with_reducible refine Keeps.alloc ?_ _ | with_reducible refine Keeps.drewN ?_ _ | with_reducible refine Keeps.drew ?_ | refine Keeps.setCell ?_ (by dsimp only; omega) _ | with_reducible refine Keeps.trans ?_ (by assumption)))⟩

/-- Has: the id of a record, if there is one. -/
theorem store_has {F : Nat → Prop} {w : World} {sb : Nat} {M : St} (h : StoreRep F w sb M) (r : Rec) (hr : r.ok) :
    Calls Try.prog 58 #[.pointer (some ⟨sb, 0, none⟩), .agg #[.int .u8 r.form, .int .u8 r.top, .int .u8 r.bot, .int .u8 r.lo.tag, .int .u32 r.lo.to, .int .u8 r.hi.tag, .int .u32 r.hi.to]] w fun e w' =>
      e = .returned (.tuple #[.int .u32 ((M.idOf r).getD 0), .bool (M.idOf r).isSome]) ∧ Keeps w w' := by
  have ho : ∀ id, look M.cs id = some r ↔ M.idOf r = some id := fun id => idOf_iff h.once r id
  obtain ⟨⟨ab, ib, ts, Fa, Fi, h1, h2, h3, h4, h5, -⟩, -⟩ := h
  have c1 : w.cell? ⟨sb, 2, none⟩ = some (.pointer (some ⟨ib, 0, none⟩)) := by rw [cell_of_row w sb 2 _ _ _ h1]; rfl
  have hsb := lt_of_heap h1
  have hg : ∀ W, Keeps w W → Calls Try.prog 93 #[.pointer (some ⟨ib, 0, none⟩), .agg #[.int .u8 r.form, .int .u8 r.top, .int .u8 r.bot, .int .u8 r.lo.tag, .int .u32 r.lo.to, .int .u8 r.hi.tag, .int .u32 r.hi.to]] W fun e w' => e = .returned (.tuple #[.int .u32 ((M.idOf r).getD 0), .bool (M.idOf r).isSome]) ∧ Keeps W w' :=
    fun W hW => index_get (h3.keeps hW) r hr (M.idOf r) (fun id => (h5 r id).trans (ho id))
  have H := Lib.hid hg
  clear h1 h2 h3 h4 h5 ho hg
  generalize (M.idOf r).getD 0 = a at *
  generalize (M.idOf r).isSome = b at *
  go_enter Try.func58, Try.ntmps58
  go_wp2
  go_region_held3 (fun w' => w'.cell? ⟨sb, 2, none⟩ = some (.pointer (some ⟨ib, 0, none⟩)) ∧ (w'.cell? ⟨w.heap.size, 0, none⟩ = some (.int .u8 r.form) ∧ w'.cell? ⟨w.heap.size, 1, none⟩ = some (.int .u8 r.top) ∧ w'.cell? ⟨w.heap.size, 2, none⟩ = some (.int .u8 r.bot) ∧ w'.cell? ⟨w.heap.size, 3, none⟩ = some (.int .u8 r.lo.tag) ∧ w'.cell? ⟨w.heap.size, 4, none⟩ = some (.int .u32 r.lo.to) ∧ w'.cell? ⟨w.heap.size, 5, none⟩ = some (.int .u8 r.hi.tag) ∧ w'.cell? ⟨w.heap.size, 6, none⟩ = some (.int .u32 r.hi.to))) (go_keep) ((first | (go_at_call 93; refine (H.out _ (by (repeat (first | with_reducible exact Keeps.refl _ | with_reducible assumption | with_reducible refine Keeps.alloc ?_ _ | with_reducible refine Keeps.drewN ?_ _ | with_reducible refine Keeps.drew ?_ | refine Keeps.setCell ?_ (by dsimp only; omega) _ | with_reducible refine Keeps.trans ?_ (by assumption))))).mono ?_; rintro e w1 ⟨rfl, hb⟩; obtain ⟨y0, y1, y2, y3, y4, y5, y6⟩ := box7 (w := w) (w1 := w1) (show Keeps (w.alloc (.cells #[.int .u8 r.form, .int .u8 r.top, .int .u8 r.bot, .int .u8 r.lo.tag, .int .u32 r.lo.to, .int .u8 r.hi.tag, .int .u32 r.hi.to] 95)) w1 by (repeat (first | with_reducible exact Keeps.refl _ | with_reducible assumption | with_reducible refine Keeps.alloc ?_ _ | with_reducible refine Keeps.drewN ?_ _ | with_reducible refine Keeps.drew ?_ | refine Keeps.setCell ?_ (by dsimp only; omega) _ | with_reducible refine Keeps.trans ?_ (by assumption)))); have hk : Keeps w w1 := (by (repeat (first | with_reducible exact Keeps.refl _ | with_reducible assumption | with_reducible refine Keeps.alloc ?_ _ | with_reducible refine Keeps.drewN ?_ _ | with_reducible refine Keeps.drew ?_ | refine Keeps.setCell ?_ (by dsimp only; omega) _ | with_reducible refine Keeps.trans ?_ (by assumption)))); obtain ⟨hc, hf⟩ := hb.cells; obtain ⟨hcl, hfl⟩ := hk.cells; have hsz := hb.size; (try simp only [World.size_alloc, World.size_drewN, World.size_drew, World.size_setCell] at hsz); have hsl := hk.size; have hz0 : w.heap.size < w1.heap.size := (by omega))))
  go_outline
  all_goals (go_wp2; go_ret2; exact ⟨rfl, by (repeat (first | with_reducible exact Keeps.refl _ | with_reducible assumption | with_reducible refine Keeps.alloc ?_ _ | with_reducible refine Keeps.drewN ?_ _ | with_reducible refine Keeps.drew ?_ | refine Keeps.setCell ?_ (by dsimp only; omega) _ | with_reducible refine Keeps.trans ?_ (by assumption)))⟩)

end Go.Proofs.Ytiacdpoldgfpbaa
