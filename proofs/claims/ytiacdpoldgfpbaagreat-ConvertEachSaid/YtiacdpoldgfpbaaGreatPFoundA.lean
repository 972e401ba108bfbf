/-
  The document's store (ramageref11): how it lies in memory; At, Has.
-/
import Derived.Test.YtiacdpoldgfpbaaGreatPSFindA
import Derived.RegionTactic
namespace Go.Proofs.YtiacdpoldgfpbaaGreat
set_option linter.unusedSimpArgs false
set_option linter.unusedVariables false
set_option maxHeartbeats 600000
open Go.RowKit

def nodeVals (p : Int × Rec) : List Value := .int .u32 p.1 :: recVals p.2

theorem nodeVals_length (p : Int × Rec) : (nodeVals p).length = 8 := rfl

end Go.Proofs.YtiacdpoldgfpbaaGreat

namespace Go.Proofs.YtiacdpoldgfpbaaGreat
set_option linter.unusedSimpArgs false
set_option linter.unusedVariables false
set_option maxHeartbeats 600000
open Go.RowKit

structure RefRep (F : Nat → Prop) (w : World) (mb : Nat) (M : St) (L : List (Int × Rec)) : Prop where
  lies : ∃ lv gv, w.heap[mb]? = some (.cells #[lv, gv, .int .u32 (M.cs.length : Int), .int .i64 M.n, .int .i64 M.room] 103 (0, 0)) ∧
    w.ownsRow 0 110 8 lv L.length (L.flatMap nodeVals) ∧ w.ownsRow 0 29 1 gv M.gone.length (M.gone.map (Value.int .u32)) ∧
    (∀ k, lv.ownBlock = some k → F k) ∧ (∀ k, gv.ownBlock = some k → F k)
  own : F mb
  lt : ∀ k, F k → k < w.heap.size
  wf : M.wf
  mem : ∀ id r, (id, r) ∈ L ↔ look M.cs id = some r
  ids : (L.map Prod.fst).Nodup
  len : (L.length : Int) = M.len
  few : M.cs.length ≤ 1048576
  fit : ∀ p ∈ L, p.2.ok

theorem RefRep.keep {F G : Nat → Prop} {w W : World} {mb : Nat} {M : St} {L : List (Int × Rec)} (h : RefRep F w mb M L) (hu : Upd G w W) (hd : ∀ k, F k → ¬ G k) : RefRep F W mb M L := by
  obtain ⟨⟨lv, gv, h1, h2, h3, h4, h5⟩, a1, a2, a3⟩ := h
  exact ⟨⟨lv, gv, (hu.block mb (lt_of_heap h1) (hd _ a1)).trans h1, hu.owns (fun k hk => hd _ (h4 k hk)) h2, hu.owns (fun k hk => hd _ (h5 k hk)) h3, h4, h5⟩, a1, fun k hk => Nat.lt_of_lt_of_le (a2 k hk) hu.size, a3, by assumption, by assumption, by assumption, by assumption, by assumption⟩

theorem RefRep.keeps {F : Nat → Prop} {w W : World} {mb : Nat} {M : St} {L : List (Int × Rec)} (h : RefRep F w mb M L) (hu : Keeps w W) : RefRep F W mb M L :=
  h.keep (hu.upd (fun _ => False)) (fun _ _ h => h)

theorem RefRep.mono {F G : Nat → Prop} {w : World} {mb : Nat} {M : St} {L : List (Int × Rec)} (h : RefRep F w mb M L) (hg : ∀ k, F k → G k) (hl : ∀ k, G k → k < w.heap.size) : RefRep G w mb M L := by
  obtain ⟨⟨lv, gv, h1, h2, h3, h4, h5⟩, a1, a2, a3, a4, a5, a6, a7, a8⟩ := h
  exact ⟨⟨lv, gv, h1, h2, h3, fun k hk => hg k (h4 k hk), fun k hk => hg k (h5 k hk)⟩, hg _ a1, hl, a3, a4, a5, a6, a7, a8⟩

theorem RefRep.cell {F : Nat → Prop} {w : World} {mb : Nat} {M : St} {L : List (Int × Rec)} (h : RefRep F w mb M L) :
    ∃ a cap, w.cell? ⟨mb, 0, none⟩ = some (.slice a L.length cap) ∧ (L.length ≠ 0 → ∃ lb, a = some ⟨lb, 0, none⟩ ∧ F lb ∧
      (∀ i p, L[i]? = some p → ∀ j, j < 8 → w.cell? ⟨lb, i * 8 + j, none⟩ = (nodeVals p)[j]?)) := by
  obtain ⟨⟨lv, gv, h1, h2, h3, h4, h5⟩, -⟩ := h
  obtain ⟨a, cap, rfl, hs⟩ := owns_slice h2
  refine ⟨a, cap, by rw [cell_of_row w mb 0 _ _ _ h1]; rfl, fun hn => ?_⟩
  obtain ⟨lb, rfl⟩ := hs hn
  refine ⟨lb, rfl, h4 lb rfl, fun i c hc j hj => ?_⟩
  have hi := (List.getElem?_eq_some_iff.1 hc).1
  rw [h2.cellAt (i * 8 + j) (by omega)]
  exact flat_get nodeVals 8 nodeVals_length L i j c hc hj

def atI (L : List (Int × Rec)) (id : Int) : Int := if L.findIdx (fun p => decide (p.1 = id)) < L.length then (L.findIdx (fun p => decide (p.1 = id)) : Int) else -1

theorem atI_look {F : Nat → Prop} {w : World} {mb : Nat} {M : St} {L : List (Int × Rec)} (h : RefRep F w mb M L) (id : Int) :
    (∃ r, look M.cs id = some r ∧ ∃ D : Nat, L[D]? = some (id, r) ∧ D = L.findIdx (fun p => decide (p.1 = id)) ∧ D < L.length ∧ atI L id = (D : Int)) ∨ (look M.cs id = none ∧ ¬ L.findIdx (fun p => decide (p.1 = id)) < L.length ∧ atI L id = -1) := by
  by_cases hlt : L.findIdx (fun p => decide (p.1 = id)) < L.length
  · left
    have h1 : (L[L.findIdx (fun p => decide (p.1 = id))]).1 = id := by simpa using List.findIdx_getElem (w := hlt)
    have h2 := (h.mem id (L[L.findIdx (fun p => decide (p.1 = id))]).2).1 (by
        have := List.getElem_mem hlt
        rwa [show L[L.findIdx (fun p => decide (p.1 = id))] = (id, (L[L.findIdx (fun p => decide (p.1 = id))]).2) from Prod.ext h1 rfl] at this)
    refine ⟨_, h2, _, ?_, rfl, hlt, by unfold atI; rw [if_pos hlt]⟩
    rw [List.getElem?_eq_getElem hlt]
    exact congrArg some (Prod.ext h1 rfl)
  · right
    refine ⟨?_, hlt, by unfold atI; rw [if_neg hlt]⟩
    cases hl : look M.cs id with
    | none => rfl
    | some r =>
      exact (hlt (List.findIdx_lt_length.2 ⟨_, (h.mem id r).2 hl, by simp⟩)).elim

end Go.Proofs.YtiacdpoldgfpbaaGreat

namespace Go.Proofs.YtiacdpoldgfpbaaGreat
set_option linter.unusedSimpArgs false
set_option linter.unusedVariables false
set_option maxHeartbeats 600000
open Go.RowKit

theorem StoreRep.mono {F G : Nat → Prop} {w : World} {sb : Nat} {M : St} (h : StoreRep F w sb M) (hg : ∀ k, F k → G k) (hl : ∀ k, G k → k < w.heap.size) : StoreRep G w sb M := by
  obtain ⟨⟨ab, ib, ts, Fa, Fi, h1, h2, h3, h4, h5, h6, h7, h8⟩, a1, a2, a3⟩ := h
  exact ⟨⟨ab, ib, ts, Fa, Fi, h1, h2, h3, h4, h5, fun k hk => hg k (h6 k hk), fun k hk => hg k (h7 k hk), h8⟩, hg _ a1, hl, a3⟩

theorem after_upd {F : Nat → Prop} {w W W1 w' : World} (hlt : ∀ k, F k → k < w.heap.size) (h1 : Keeps w W) (h2 : Upd F W W1) (h4 : Upd (fun k => w.heap.size ≤ k ∧ k < W.heap.size) W1 w') :
    Upd F w w' ∧ (∀ k, Grow F W W1 k → Grow F w w' k) ∧ (∀ k, Grow F w w' k → k < w'.heap.size) ∧ ∀ k, Grow F W W1 k → ¬ (w.heap.size ≤ k ∧ k < W.heap.size) := by
  have s1 := h1.size
  have s2 := h2.size
  have s4 := h4.size
  refine ⟨⟨h4.os.trans (h2.os.trans h1.os), h4.tape.trans (h2.tape.trans h1.tape), h4.output.trans (h2.output.trans h1.output), by omega, fun k hk hf => ?_⟩, ?_, ?_, ?_⟩
  · rw [h4.block k (by omega) (by omega), h2.block k (by omega) hf, h1.block k hk]
  · intro k hk
    rcases hk with hk | hk
    · exact .inl hk
    · exact .inr ⟨by omega, by omega⟩
  · intro k hk
    rcases hk with hk | hk
    · have := hlt k hk; omega
    · exact hk.2
  · intro k hk hk'
    rcases hk with hk | hk
    · have := hlt k hk; omega
    · omega

theorem StoreRep.after {F : Nat → Prop} {w W W1 w' : World} {sb : Nat} {M : St} (hlt : ∀ k, F k → k < w.heap.size) (h1 : Keeps w W) (h2 : Upd F W W1) (h3 : StoreRep (Grow F W W1) W1 sb M) (h4 : Upd (fun k => w.heap.size ≤ k ∧ k < W.heap.size) W1 w') :
    Upd F w w' ∧ StoreRep (Grow F w w') w' sb M := by
  obtain ⟨a, b, c, d⟩ := after_upd hlt h1 h2 h4
  exact ⟨a, (h3.keep h4 d).mono b c⟩

theorem RefRep.after {F : Nat → Prop} {w W W1 w' : World} {sb : Nat} {M : St} {L : List (Int × Rec)} (hlt : ∀ k, F k → k < w.heap.size) (h1 : Keeps w W) (h2 : Upd F W W1) (h3 : RefRep (Grow F W W1) W1 sb M L) (h4 : Upd (fun k => w.heap.size ≤ k ∧ k < W.heap.size) W1 w') :
    Upd F w w' ∧ RefRep (Grow F w w') w' sb M L := by
  obtain ⟨a, b, c, d⟩ := after_upd hlt h1 h2 h4
  exact ⟨a, (h3.keep h4 d).mono b c⟩

set_option maxRecDepth 100000 in
theorem tfound_ok {F : Nat → Prop} (sb : Nat) (r : Rec) (id : Int) (w : World) (hsb : sb < w.heap.size) (hlt : ∀ k, F k → k < w.heap.size) (R : World → World → Prop)
    (hf : ∀ W, Keeps w W → Calls Tryz.prog 66 #[.pointer (some ⟨sb, 0, none⟩), .agg #[.int .u8 r.form, .int .u8 r.top, .int .u8 r.bot, .int .u8 r.lo.tag, .int .u32 r.lo.to, .int .u8 r.hi.tag, .int .u32 r.hi.to]] W fun e w' => e = .returned (.tuple #[.int .u32 id, .int .u8 0]) ∧ Upd F W w' ∧ R W w') :
    Calls Tryz.prog 125 #[.pointer (some ⟨sb, 0, none⟩), .agg #[.int .u8 r.form, .int .u8 r.top, .int .u8 r.bot, .int .u8 r.lo.tag, .int .u32 r.lo.to, .int .u8 r.hi.tag, .int .u32 r.hi.to]] w fun e w' => e = .returned (.tuple #[.agg #[.int .u8 r.top, .int .u32 id], .int .u8 0]) ∧
      ∃ W W1, Keeps w W ∧ Upd F W W1 ∧ R W W1 ∧ Upd (fun k => w.heap.size ≤ k ∧ k < W.heap.size) W1 w' := by
  have HF := Lib.hid hf
  have HL := Lib.hid hlt
  clear hf hlt
  have n0 : ¬ F w.heap.size := fun h => by have := HL.out _ h; omega
  have n1 : ¬ F (w.heap.size + 1) := fun h => by have := HL.out _ h; omega
  go_enter Tryz.func125, Tryz.ntmps125
  go_wp2_with (go_at_call 66; refine (HF.out _ (by (exact kp))).mono ?_; rintro e w1 ⟨rfl, hu, hR⟩; have hsz := hu.size; simp only [World.size_alloc] at hsz; have y1 := hu.cell (a := ⟨w.heap.size, 1, none⟩) n0 (v := .int .u8 r.top) (by simp); have z0 := hu.cell (a := ⟨w.heap.size + 1, 0, none⟩) n1 (v := .int .u8 0) (by simp); have z1 := hu.cell (a := ⟨w.heap.size + 1, 1, none⟩) n1 (v := .int .u32 0) (by simp); have zf := fun o : Nat => hu.frozen (a := ⟨w.heap.size + 1, o, none⟩) (by simp) n1 (by simp); have hz1 : w.heap.size + 1 < w1.heap.size := (by omega); have hz0 : w.heap.size < w1.heap.size := (by omega))
  refine bodyPost_ret (v := .tuple #[.agg #[.int .u8 r.top, .int .u32 id], .int .u8 0]) (by simp [results, Tryz.results125, go_sem, hz1, z0, z1]) rfl ⟨rfl, _, w1, ?_, hu, hR, ?_⟩
  · (exact kp)
  · (have hz2 : (w.alloc (.cells #[.int .u8 r.form, .int .u8 r.top, .int .u8 r.bot, .int .u8 r.lo.tag, .int .u32 r.lo.to, .int .u8 r.hi.tag, .int .u32 r.hi.to] 72)).heap.size = w.heap.size + 1 := by simp); (try simp only [World.size_alloc]); (repeat (first | with_reducible exact Upd.refl _ _ | refine Upd.setCell ?_ (Or.inl (by dsimp only; omega)) _ | with_reducible refine Upd.drewN ?_ _ | with_reducible refine Upd.drew ?_ | with_reducible refine Upd.alloc ?_ _))

set_option maxRecDepth 100000 in
theorem tfound_bad {F : Nat → Prop} (sb : Nat) (r : Rec) (id er : Int) (her : er ≠ 0) (w : World) (hsb : sb < w.heap.size) (hlt : ∀ k, F k → k < w.heap.size) (R : World → World → Prop)
    (hf : ∀ W, Keeps w W → Calls Tryz.prog 66 #[.pointer (some ⟨sb, 0, none⟩), .agg #[.int .u8 r.form, .int .u8 r.top, .int .u8 r.bot, .int .u8 r.lo.tag, .int .u32 r.lo.to, .int .u8 r.hi.tag, .int .u32 r.hi.to]] W fun e w' => e = .returned (.tuple #[.int .u32 id, .int .u8 er]) ∧ Upd F W w' ∧ R W w') :
    Calls Tryz.prog 125 #[.pointer (some ⟨sb, 0, none⟩), .agg #[.int .u8 r.form, .int .u8 r.top, .int .u8 r.bot, .int .u8 r.lo.tag, .int .u32 r.lo.to, .int .u8 r.hi.tag, .int .u32 r.hi.to]] w fun e w' => e = .returned (.tuple #[.agg #[.int .u8 0, .int .u32 0], .int .u8 er]) ∧
      ∃ W W1, Keeps w W ∧ Upd F W W1 ∧ R W W1 ∧ Upd (fun k => w.heap.size ≤ k ∧ k < W.heap.size) W1 w' := by
  have HF := Lib.hid hf
  have HL := Lib.hid hlt
  clear hf hlt
  have n0 : ¬ F w.heap.size := fun h => by have := HL.out _ h; omega
  have n1 : ¬ F (w.heap.size + 1) := fun h => by have := HL.out _ h; omega
  go_enter Tryz.func125, Tryz.ntmps125
  go_wp2_with (go_at_call 66; refine (HF.out _ (by (exact kp))).mono ?_; rintro e w1 ⟨rfl, hu, hR⟩; have hsz := hu.size; simp only [World.size_alloc] at hsz; have y1 := hu.cell (a := ⟨w.heap.size, 1, none⟩) n0 (v := .int .u8 r.top) (by simp); have z0 := hu.cell (a := ⟨w.heap.size + 1, 0, none⟩) n1 (v := .int .u8 0) (by simp); have z1 := hu.cell (a := ⟨w.heap.size + 1, 1, none⟩) n1 (v := .int .u32 0) (by simp); have zf := fun o : Nat => hu.frozen (a := ⟨w.heap.size + 1, o, none⟩) (by simp) n1 (by simp); have hz1 : w.heap.size + 1 < w1.heap.size := (by omega); have hz0 : w.heap.size < w1.heap.size := (by omega))
  refine bodyPost_ret (v := .tuple #[.agg #[.int .u8 0, .int .u32 0], .int .u8 er]) (by simp [results, Tryz.results125, go_sem, hz1, z0, z1]) rfl ⟨rfl, _, w1, ?_, hu, hR, ?_⟩
  · (exact kp)
  · (have hz2 : (w.alloc (.cells #[.int .u8 r.form, .int .u8 r.top, .int .u8 r.bot, .int .u8 r.lo.tag, .int .u32 r.lo.to, .int .u8 r.hi.tag, .int .u32 r.hi.to] 72)).heap.size = w.heap.size + 1 := by simp); (try simp only [World.size_alloc]); (repeat (first | with_reducible exact Upd.refl _ _ | refine Upd.setCell ?_ (Or.inl (by dsimp only; omega)) _ | with_reducible refine Upd.drewN ?_ _ | with_reducible refine Upd.drew ?_ | with_reducible refine Upd.alloc ?_ _))

set_option maxRecDepth 100000 in
theorem cfound_ok {F : Nat → Prop} (sb : Nat) (r : Rec) (id : Int) (w : World) (hsb : sb < w.heap.size) (hlt : ∀ k, F k → k < w.heap.size) (R : World → World → Prop)
    (hf : ∀ W, Keeps w W → Calls Tryz.prog 66 #[.pointer (some ⟨sb, 0, none⟩), .agg #[.int .u8 r.form, .int .u8 r.top, .int .u8 r.bot, .int .u8 r.lo.tag, .int .u32 r.lo.to, .int .u8 r.hi.tag, .int .u32 r.hi.to]] W fun e w' => e = .returned (.tuple #[.int .u32 id, .int .u8 0]) ∧ Upd F W w' ∧ R W w') :
    Calls Tryz.prog 123 #[.pointer (some ⟨sb, 0, none⟩), .agg #[.int .u8 r.form, .int .u8 r.top, .int .u8 r.bot, .int .u8 r.lo.tag, .int .u32 r.lo.to, .int .u8 r.hi.tag, .int .u32 r.hi.to]] w fun e w' => e = .returned (.tuple #[.agg #[.int .u8 0, .int .u32 id], .int .u8 0]) ∧
      ∃ W W1, Keeps w W ∧ Upd F W W1 ∧ R W W1 ∧ Upd (fun k => w.heap.size ≤ k ∧ k < W.heap.size) W1 w' := by
  have HF := Lib.hid hf
  have HL := Lib.hid hlt
  clear hf hlt
  have n0 : ¬ F w.heap.size := fun h => by have := HL.out _ h; omega
  have n1 : ¬ F (w.heap.size + 1) := fun h => by have := HL.out _ h; omega
  go_enter Tryz.func123, Tryz.ntmps123
  go_wp2_with (go_at_call 66; refine (HF.out _ (by (exact kp))).mono ?_; rintro e w1 ⟨rfl, hu, hR⟩; have hsz := hu.size; simp only [World.size_alloc] at hsz; have y1 := hu.cell (a := ⟨w.heap.size, 1, none⟩) n0 (v := .int .u8 r.top) (by simp); have z0 := hu.cell (a := ⟨w.heap.size + 1, 0, none⟩) n1 (v := .int .u8 0) (by simp); have z1 := hu.cell (a := ⟨w.heap.size + 1, 1, none⟩) n1 (v := .int .u32 0) (by simp); have zf := fun o : Nat => hu.frozen (a := ⟨w.heap.size + 1, o, none⟩) (by simp) n1 (by simp); have hz1 : w.heap.size + 1 < w1.heap.size := (by omega); have hz0 : w.heap.size < w1.heap.size := (by omega))
  refine bodyPost_ret (v := .tuple #[.agg #[.int .u8 0, .int .u32 id], .int .u8 0]) (by simp [results, Tryz.results123, go_sem, hz1, z0, z1]) rfl ⟨rfl, _, w1, ?_, hu, hR, ?_⟩
  · (exact kp)
  · (have hz2 : (w.alloc (.cells #[.int .u8 r.form, .int .u8 r.top, .int .u8 r.bot, .int .u8 r.lo.tag, .int .u32 r.lo.to, .int .u8 r.hi.tag, .int .u32 r.hi.to] 72)).heap.size = w.heap.size + 1 := by simp); (try simp only [World.size_alloc]); (repeat (first | with_reducible exact Upd.refl _ _ | refine Upd.setCell ?_ (Or.inl (by dsimp only; omega)) _ | with_reducible refine Upd.drewN ?_ _ | with_reducible refine Upd.drew ?_ | with_reducible refine Upd.alloc ?_ _))

set_option maxRecDepth 100000 in
theorem cfound_bad {F : Nat → Prop} (sb : Nat) (r : Rec) (id er : Int) (her : er ≠ 0) (w : World) (hsb : sb < w.heap.size) (hlt : ∀ k, F k → k < w.heap.size) (R : World → World → Prop)
    (hf : ∀ W, Keeps w W → Calls Tryz.prog 66 #[.pointer (some ⟨sb, 0, none⟩), .agg #[.int .u8 r.form, .int .u8 r.top, .int .u8 r.bot, .int .u8 r.lo.tag, .int .u32 r.lo.to, .int .u8 r.hi.tag, .int .u32 r.hi.to]] W fun e w' => e = .returned (.tuple #[.int .u32 id, .int .u8 er]) ∧ Upd F W w' ∧ R W w') :
    Calls Tryz.prog 123 #[.pointer (some ⟨sb, 0, none⟩), .agg #[.int .u8 r.form, .int .u8 r.top, .int .u8 r.bot, .int .u8 r.lo.tag, .int .u32 r.lo.to, .int .u8 r.hi.tag, .int .u32 r.hi.to]] w fun e w' => e = .returned (.tuple #[.agg #[.int .u8 0, .int .u32 0], .int .u8 er]) ∧
      ∃ W W1, Keeps w W ∧ Upd F W W1 ∧ R W W1 ∧ Upd (fun k => w.heap.size ≤ k ∧ k < W.heap.size) W1 w' := by
  have HF := Lib.hid hf
  have HL := Lib.hid hlt
  clear hf hlt
  have n0 : ¬ F w.heap.size := fun h => by have := HL.out _ h; omega
  have n1 : ¬ F (w.heap.size + 1) := fun h => by have := HL.out _ h; omega
  go_enter Tryz.func123, Tryz.ntmps123
  go_wp2_with (go_at_call 66; refine (HF.out _ (by (exact kp))).mono ?_; rintro e w1 ⟨rfl, hu, hR⟩; have hsz := hu.size; simp only [World.size_alloc] at hsz; have y1 := hu.cell (a := ⟨w.heap.size, 1, none⟩) n0 (v := .int .u8 r.top) (by simp); have z0 := hu.cell (a := ⟨w.heap.size + 1, 0, none⟩) n1 (v := .int .u8 0) (by simp); have z1 := hu.cell (a := ⟨w.heap.size + 1, 1, none⟩) n1 (v := .int .u32 0) (by simp); have zf := fun o : Nat => hu.frozen (a := ⟨w.heap.size + 1, o, none⟩) (by simp) n1 (by simp); have hz1 : w.heap.size + 1 < w1.heap.size := (by omega); have hz0 : w.heap.size < w1.heap.size := (by omega))
  refine bodyPost_ret (v := .tuple #[.agg #[.int .u8 0, .int .u32 0], .int .u8 er]) (by simp [results, Tryz.results123, go_sem, hz1, z0, z1]) rfl ⟨rfl, _, w1, ?_, hu, hR, ?_⟩
  · (exact kp)
  · (have hz2 : (w.alloc (.cells #[.int .u8 r.form, .int .u8 r.top, .int .u8 r.bot, .int .u8 r.lo.tag, .int .u32 r.lo.to, .int .u8 r.hi.tag, .int .u32 r.hi.to] 72)).heap.size = w.heap.size + 1 := by simp); (try simp only [World.size_alloc]); (repeat (first | with_reducible exact Upd.refl _ _ | refine Upd.setCell ?_ (Or.inl (by dsimp only; omega)) _ | with_reducible refine Upd.drewN ?_ _ | with_reducible refine Upd.drew ?_ | with_reducible refine Upd.alloc ?_ _))

set_option maxRecDepth 100000 in
theorem zfound_ok {F : Nat → Prop} (sb : Nat) (r : Rec) (id : Int) (w : World) (hsb : sb < w.heap.size) (hlt : ∀ k, F k → k < w.heap.size) (R : World → World → Prop)
    (hf : ∀ W, Keeps w W → Calls Tryz.prog 66 #[.pointer (some ⟨sb, 0, none⟩), .agg #[.int .u8 r.form, .int .u8 r.top, .int .u8 r.bot, .int .u8 r.lo.tag, .int .u32 r.lo.to, .int .u8 r.hi.tag, .int .u32 r.hi.to]] W fun e w' => e = .returned (.tuple #[.int .u32 id, .int .u8 0]) ∧ Upd F W w' ∧ R W w') :
    Calls Tryz.prog 124 #[.pointer (some ⟨sb, 0, none⟩), .agg #[.int .u8 r.form, .int .u8 r.top, .int .u8 r.bot, .int .u8 r.lo.tag, .int .u32 r.lo.to, .int .u8 r.hi.tag, .int .u32 r.hi.to]] w fun e w' => e = .returned (.tuple #[.agg #[.int .u8 0, .int .u32 id], .int .u8 0]) ∧
      ∃ W W1, Keeps w W ∧ Upd F W W1 ∧ R W W1 ∧ Upd (fun k => w.heap.size ≤ k ∧ k < W.heap.size) W1 w' := by
  have HF := Lib.hid hf
  have HL := Lib.hid hlt
  clear hf hlt
  have n0 : ¬ F w.heap.size := fun h => by have := HL.out _ h; omega
  have n1 : ¬ F (w.heap.size + 1) := fun h => by have := HL.out _ h; omega
  go_enter Tryz.func124, Tryz.ntmps124
  go_wp2_with (go_at_call 66; refine (HF.out _ (by (exact kp))).mono ?_; rintro e w1 ⟨rfl, hu, hR⟩; have hsz := hu.size; simp only [World.size_alloc] at hsz; have y1 := hu.cell (a := ⟨w.heap.size, 1, none⟩) n0 (v := .int .u8 r.top) (by simp); have z0 := hu.cell (a := ⟨w.heap.size + 1, 0, none⟩) n1 (v := .int .u8 0) (by simp); have z1 := hu.cell (a := ⟨w.heap.size + 1, 1, none⟩) n1 (v := .int .u32 0) (by simp); have zf := fun o : Nat => hu.frozen (a := ⟨w.heap.size + 1, o, none⟩) (by simp) n1 (by simp); have hz1 : w.heap.size + 1 < w1.heap.size := (by omega); have hz0 : w.heap.size < w1.heap.size := (by omega))
  refine bodyPost_ret (v := .tuple #[.agg #[.int .u8 0, .int .u32 id], .int .u8 0]) (by simp [results, Tryz.results124, go_sem, hz1, z0, z1]) rfl ⟨rfl, _, w1, ?_, hu, hR, ?_⟩
  · (exact kp)
  · (have hz2 : (w.alloc (.cells #[.int .u8 r.form, .int .u8 r.top, .int .u8 r.bot, .int .u8 r.lo.tag, .int .u32 r.lo.to, .int .u8 r.hi.tag, .int .u32 r.hi.to] 72)).heap.size = w.heap.size + 1 := by simp); (try simp only [World.size_alloc]); (repeat (first | with_reducible exact Upd.refl _ _ | refine Upd.setCell ?_ (Or.inl (by dsimp only; omega)) _ | with_reducible refine Upd.drewN ?_ _ | with_reducible refine Upd.drew ?_ | with_reducible refine Upd.alloc ?_ _))

set_option maxRecDepth 100000 in
theorem zfound_bad {F : Nat → Prop} (sb : Nat) (r : Rec) (id er : Int) (her : er ≠ 0) (w : World) (hsb : sb < w.heap.size) (hlt : ∀ k, F k → k < w.heap.size) (R : World → World → Prop)
    (hf : ∀ W, Keeps w W → Calls Tryz.prog 66 #[.pointer (some ⟨sb, 0, none⟩), .agg #[.int .u8 r.form, .int .u8 r.top, .int .u8 r.bot, .int .u8 r.lo.tag, .int .u32 r.lo.to, .int .u8 r.hi.tag, .int .u32 r.hi.to]] W fun e w' => e = .returned (.tuple #[.int .u32 id, .int .u8 er]) ∧ Upd F W w' ∧ R W w') :
    Calls Tryz.prog 124 #[.pointer (some ⟨sb, 0, none⟩), .agg #[.int .u8 r.form, .int .u8 r.top, .int .u8 r.bot, .int .u8 r.lo.tag, .int .u32 r.lo.to, .int .u8 r.hi.tag, .int .u32 r.hi.to]] w fun e w' => e = .returned (.tuple #[.agg #[.int .u8 0, .int .u32 0], .int .u8 er]) ∧
      ∃ W W1, Keeps w W ∧ Upd F W W1 ∧ R W W1 ∧ Upd (fun k => w.heap.size ≤ k ∧ k < W.heap.size) W1 w' := by
  have HF := Lib.hid hf
  have HL := Lib.hid hlt
  clear hf hlt
  have n0 : ¬ F w.heap.size := fun h => by have := HL.out _ h; omega
  have n1 : ¬ F (w.heap.size + 1) := fun h => by have := HL.out _ h; omega
  go_enter Tryz.func124, Tryz.ntmps124
  go_wp2_with (go_at_call 66; refine (HF.out _ (by (exact kp))).mono ?_; rintro e w1 ⟨rfl, hu, hR⟩; have hsz := hu.size; simp only [World.size_alloc] at hsz; have y1 := hu.cell (a := ⟨w.heap.size, 1, none⟩) n0 (v := .int .u8 r.top) (by simp); have z0 := hu.cell (a := ⟨w.heap.size + 1, 0, none⟩) n1 (v := .int .u8 0) (by simp); have z1 := hu.cell (a := ⟨w.heap.size + 1, 1, none⟩) n1 (v := .int .u32 0) (by simp); have zf := fun o : Nat => hu.frozen (a := ⟨w.heap.size + 1, o, none⟩) (by simp) n1 (by simp); have hz1 : w.heap.size + 1 < w1.heap.size := (by omega); have hz0 : w.heap.size < w1.heap.size := (by omega))
  refine bodyPost_ret (v := .tuple #[.agg #[.int .u8 0, .int .u32 0], .int .u8 er]) (by simp [results, Tryz.results124, go_sem, hz1, z0, z1]) rfl ⟨rfl, _, w1, ?_, hu, hR, ?_⟩
  · (exact kp)
  · (have hz2 : (w.alloc (.cells #[.int .u8 r.form, .int .u8 r.top, .int .u8 r.bot, .int .u8 r.lo.tag, .int .u32 r.lo.to, .int .u8 r.hi.tag, .int .u32 r.hi.to] 72)).heap.size = w.heap.size + 1 := by simp); (try simp only [World.size_alloc]); (repeat (first | with_reducible exact Upd.refl _ _ | refine Upd.setCell ?_ (Or.inl (by dsimp only; omega)) _ | with_reducible refine Upd.drewN ?_ _ | with_reducible refine Upd.drew ?_ | with_reducible refine Upd.alloc ?_ _))

end Go.Proofs.YtiacdpoldgfpbaaGreat

namespace Go.Proofs.YtiacdpoldgfpbaaGreat
set_option linter.unusedSimpArgs false
set_option linter.unusedVariables false
set_option maxHeartbeats 600000
open Go.RowKit

set_option maxRecDepth 100000 in
theorem bfound_ok {F : Nat → Prop} (sb : Nat) (r : Rec) (id : Int) (w : World) (hsb : sb < w.heap.size) (hlt : ∀ k, F k → k < w.heap.size) (R : World → World → Prop)
    (hf : ∀ W, Keeps w W → Calls Tryz.prog 66 #[.pointer (some ⟨sb, 0, none⟩), .agg #[.int .u8 r.form, .int .u8 r.top, .int .u8 r.bot, .int .u8 r.lo.tag, .int .u32 r.lo.to, .int .u8 r.hi.tag, .int .u32 r.hi.to]] W fun e w' => e = .returned (.tuple #[.int .u32 id, .int .u8 0]) ∧ Upd F W w' ∧ R W w') :
    Calls Tryz.prog 121 #[.pointer (some ⟨sb, 0, none⟩), .agg #[.int .u8 r.form, .int .u8 r.top, .int .u8 r.bot, .int .u8 r.lo.tag, .int .u32 r.lo.to, .int .u8 r.hi.tag, .int .u32 r.hi.to]] w fun e w' => e = .returned (.tuple #[.agg #[.int .u8 0, .int .u32 id], .int .u8 0]) ∧
      ∃ W W1, Keeps w W ∧ Upd F W W1 ∧ R W W1 ∧ Upd (fun k => w.heap.size ≤ k ∧ k < W.heap.size) W1 w' := by
  have HF := Lib.hid hf
  have HL := Lib.hid hlt
  clear hf hlt
  have n0 : ¬ F w.heap.size := fun h => by have := HL.out _ h; omega
  have n1 : ¬ F (w.heap.size + 1) := fun h => by have := HL.out _ h; omega
  go_enter Tryz.func121, Tryz.ntmps121
  go_wp2_with (go_at_call 66; refine (HF.out _ (by (exact kp))).mono ?_; rintro e w1 ⟨rfl, hu, hR⟩; have hsz := hu.size; simp only [World.size_alloc] at hsz; have y1 := hu.cell (a := ⟨w.heap.size, 1, none⟩) n0 (v := .int .u8 r.top) (by simp); have z0 := hu.cell (a := ⟨w.heap.size + 1, 0, none⟩) n1 (v := .int .u8 0) (by simp); have z1 := hu.cell (a := ⟨w.heap.size + 1, 1, none⟩) n1 (v := .int .u32 0) (by simp); have zf := fun o : Nat => hu.frozen (a := ⟨w.heap.size + 1, o, none⟩) (by simp) n1 (by simp); have hz1 : w.heap.size + 1 < w1.heap.size := (by omega); have hz0 : w.heap.size < w1.heap.size := (by omega))
  refine bodyPost_ret (v := .tuple #[.agg #[.int .u8 0, .int .u32 id], .int .u8 0]) (by simp [results, Tryz.results121, go_sem, hz1, z0, z1]) rfl ⟨rfl, _, w1, ?_, hu, hR, ?_⟩
  · (exact kp)
  · (have hz2 : (w.alloc (.cells #[.int .u8 r.form, .int .u8 r.top, .int .u8 r.bot, .int .u8 r.lo.tag, .int .u32 r.lo.to, .int .u8 r.hi.tag, .int .u32 r.hi.to] 72)).heap.size = w.heap.size + 1 := by simp); (try simp only [World.size_alloc]); (repeat (first | with_reducible exact Upd.refl _ _ | refine Upd.setCell ?_ (Or.inl (by dsimp only; omega)) _ | with_reducible refine Upd.drewN ?_ _ | with_reducible refine Upd.drew ?_ | with_reducible refine Upd.alloc ?_ _))

set_option maxRecDepth 100000 in
theorem bfound_bad {F : Nat → Prop} (sb : Nat) (r : Rec) (id er : Int) (her : er ≠ 0) (w : World) (hsb : sb < w.heap.size) (hlt : ∀ k, F k → k < w.heap.size) (R : World → World → Prop)
    (hf : ∀ W, Keeps w W → Calls Tryz.prog 66 #[.pointer (some ⟨sb, 0, none⟩), .agg #[.int .u8 r.form, .int .u8 r.top, .int .u8 r.bot, .int .u8 r.lo.tag, .int .u32 r.lo.to, .int .u8 r.hi.tag, .int .u32 r.hi.to]] W fun e w' => e = .returned (.tuple #[.int .u32 id, .int .u8 er]) ∧ Upd F W w' ∧ R W w') :
    Calls Tryz.prog 121 #[.pointer (some ⟨sb, 0, none⟩), .agg #[.int .u8 r.form, .int .u8 r.top, .int .u8 r.bot, .int .u8 r.lo.tag, .int .u32 r.lo.to, .int .u8 r.hi.tag, .int .u32 r.hi.to]] w fun e w' => e = .returned (.tuple #[.agg #[.int .u8 0, .int .u32 0], .int .u8 er]) ∧
      ∃ W W1, Keeps w W ∧ Upd F W W1 ∧ R W W1 ∧ Upd (fun k => w.heap.size ≤ k ∧ k < W.heap.size) W1 w' := by
  have HF := Lib.hid hf
  have HL := Lib.hid hlt
  clear hf hlt
  have n0 : ¬ F w.heap.size := fun h => by have := HL.out _ h; omega
  have n1 : ¬ F (w.heap.size + 1) := fun h => by have := HL.out _ h; omega
  go_enter Tryz.func121, Tryz.ntmps121
  go_wp2_with (go_at_call 66; refine (HF.out _ (by (exact kp))).mono ?_; rintro e w1 ⟨rfl, hu, hR⟩; have hsz := hu.size; simp only [World.size_alloc] at hsz; have y1 := hu.cell (a := ⟨w.heap.size, 1, none⟩) n0 (v := .int .u8 r.top) (by simp); have z0 := hu.cell (a := ⟨w.heap.size + 1, 0, none⟩) n1 (v := .int .u8 0) (by simp); have z1 := hu.cell (a := ⟨w.heap.size + 1, 1, none⟩) n1 (v := .int .u32 0) (by simp); have zf := fun o : Nat => hu.frozen (a := ⟨w.heap.size + 1, o, none⟩) (by simp) n1 (by simp); have hz1 : w.heap.size + 1 < w1.heap.size := (by omega); have hz0 : w.heap.size < w1.heap.size := (by omega))
  refine bodyPost_ret (v := .tuple #[.agg #[.int .u8 0, .int .u32 0], .int .u8 er]) (by simp [results, Tryz.results121, go_sem, hz1, z0, z1]) rfl ⟨rfl, _, w1, ?_, hu, hR, ?_⟩
  · (exact kp)
  · (have hz2 : (w.alloc (.cells #[.int .u8 r.form, .int .u8 r.top, .int .u8 r.bot, .int .u8 r.lo.tag, .int .u32 r.lo.to, .int .u8 r.hi.tag, .int .u32 r.hi.to] 72)).heap.size = w.heap.size + 1 := by simp); (try simp only [World.size_alloc]); (repeat (first | with_reducible exact Upd.refl _ _ | refine Upd.setCell ?_ (Or.inl (by dsimp only; omega)) _ | with_reducible refine Upd.drewN ?_ _ | with_reducible refine Upd.drew ?_ | with_reducible refine Upd.alloc ?_ _))

set_option maxRecDepth 100000 in
theorem yfound_ok {F : Nat → Prop} (sb : Nat) (r : Rec) (id : Int) (w : World) (hsb : sb < w.heap.size) (hlt : ∀ k, F k → k < w.heap.size) (R : World → World → Prop)
    (hf : ∀ W, Keeps w W → Calls Tryz.prog 66 #[.pointer (some ⟨sb, 0, none⟩), .agg #[.int .u8 r.form, .int .u8 r.top, .int .u8 r.bot, .int .u8 r.lo.tag, .int .u32 r.lo.to, .int .u8 r.hi.tag, .int .u32 r.hi.to]] W fun e w' => e = .returned (.tuple #[.int .u32 id, .int .u8 0]) ∧ Upd F W w' ∧ R W w') :
    Calls Tryz.prog 122 #[.pointer (some ⟨sb, 0, none⟩), .agg #[.int .u8 r.form, .int .u8 r.top, .int .u8 r.bot, .int .u8 r.lo.tag, .int .u32 r.lo.to, .int .u8 r.hi.tag, .int .u32 r.hi.to]] w fun e w' => e = .returned (.tuple #[.agg #[.int .u8 0, .int .u32 id], .int .u8 0]) ∧
      ∃ W W1, Keeps w W ∧ Upd F W W1 ∧ R W W1 ∧ Upd (fun k => w.heap.size ≤ k ∧ k < W.heap.size) W1 w' := by
  have HF := Lib.hid hf
  have HL := Lib.hid hlt
  clear hf hlt
  have n0 : ¬ F w.heap.size := fun h => by have := HL.out _ h; omega
  have n1 : ¬ F (w.heap.size + 1) := fun h => by have := HL.out _ h; omega
  go_enter Tryz.func122, Tryz.ntmps122
  go_wp2_with (go_at_call 66; refine (HF.out _ (by (exact kp))).mono ?_; rintro e w1 ⟨rfl, hu, hR⟩; have hsz := hu.size; simp only [World.size_alloc] at hsz; have y1 := hu.cell (a := ⟨w.heap.size, 1, none⟩) n0 (v := .int .u8 r.top) (by simp); have z0 := hu.cell (a := ⟨w.heap.size + 1, 0, none⟩) n1 (v := .int .u8 0) (by simp); have z1 := hu.cell (a := ⟨w.heap.size + 1, 1, none⟩) n1 (v := .int .u32 0) (by simp); have zf := fun o : Nat => hu.frozen (a := ⟨w.heap.size + 1, o, none⟩) (by simp) n1 (by simp); have hz1 : w.heap.size + 1 < w1.heap.size := (by omega); have hz0 : w.heap.size < w1.heap.size := (by omega))
  refine bodyPost_ret (v := .tuple #[.agg #[.int .u8 0, .int .u32 id], .int .u8 0]) (by simp [results, Tryz.results122, go_sem, hz1, z0, z1]) rfl ⟨rfl, _, w1, ?_, hu, hR, ?_⟩
  · (exact kp)
  · (have hz2 : (w.alloc (.cells #[.int .u8 r.form, .int .u8 r.top, .int .u8 r.bot, .int .u8 r.lo.tag, .int .u32 r.lo.to, .int .u8 r.hi.tag, .int .u32 r.hi.to] 72)).heap.size = w.heap.size + 1 := by simp); (try simp only [World.size_alloc]); (repeat (first | with_reducible exact Upd.refl _ _ | refine Upd.setCell ?_ (Or.inl (by dsimp only; omega)) _ | with_reducible refine Upd.drewN ?_ _ | with_reducible refine Upd.drew ?_ | with_reducible refine Upd.alloc ?_ _))

set_option maxRecDepth 100000 in
theorem yfound_bad {F : Nat → Prop} (sb : Nat) (r : Rec) (id er : Int) (her : er ≠ 0) (w : World) (hsb : sb < w.heap.size) (hlt : ∀ k, F k → k < w.heap.size) (R : World → World → Prop)
    (hf : ∀ W, Keeps w W → Calls Tryz.prog 66 #[.pointer (some ⟨sb, 0, none⟩), .agg #[.int .u8 r.form, .int .u8 r.top, .int .u8 r.bot, .int .u8 r.lo.tag, .int .u32 r.lo.to, .int .u8 r.hi.tag, .int .u32 r.hi.to]] W fun e w' => e = .returned (.tuple #[.int .u32 id, .int .u8 er]) ∧ Upd F W w' ∧ R W w') :
    Calls Tryz.prog 122 #[.pointer (some ⟨sb, 0, none⟩), .agg #[.int .u8 r.form, .int .u8 r.top, .int .u8 r.bot, .int .u8 r.lo.tag, .int .u32 r.lo.to, .int .u8 r.hi.tag, .int .u32 r.hi.to]] w fun e w' => e = .returned (.tuple #[.agg #[.int .u8 0, .int .u32 0], .int .u8 er]) ∧
      ∃ W W1, Keeps w W ∧ Upd F W W1 ∧ R W W1 ∧ Upd (fun k => w.heap.size ≤ k ∧ k < W.heap.size) W1 w' := by
  have HF := Lib.hid hf
  have HL := Lib.hid hlt
  clear hf hlt
  have n0 : ¬ F w.heap.size := fun h => by have := HL.out _ h; omega
  have n1 : ¬ F (w.heap.size + 1) := fun h => by have := HL.out _ h; omega
  go_enter Tryz.func122, Tryz.ntmps122
  go_wp2_with (go_at_call 66; refine (HF.out _ (by (exact kp))).mono ?_; rintro e w1 ⟨rfl, hu, hR⟩; have hsz := hu.size; simp only [World.size_alloc] at hsz; have y1 := hu.cell (a := ⟨w.heap.size, 1, none⟩) n0 (v := .int .u8 r.top) (by simp); have z0 := hu.cell (a := ⟨w.heap.size + 1, 0, none⟩) n1 (v := .int .u8 0) (by simp); have z1 := hu.cell (a := ⟨w.heap.size + 1, 1, none⟩) n1 (v := .int .u32 0) (by simp); have zf := fun o : Nat => hu.frozen (a := ⟨w.heap.size + 1, o, none⟩) (by simp) n1 (by simp); have hz1 : w.heap.size + 1 < w1.heap.size := (by omega); have hz0 : w.heap.size < w1.heap.size := (by omega))
  refine bodyPost_ret (v := .tuple #[.agg #[.int .u8 0, .int .u32 0], .int .u8 er]) (by simp [results, Tryz.results122, go_sem, hz1, z0, z1]) rfl ⟨rfl, _, w1, ?_, hu, hR, ?_⟩
  · (exact kp)
  · (have hz2 : (w.alloc (.cells #[.int .u8 r.form, .int .u8 r.top, .int .u8 r.bot, .int .u8 r.lo.tag, .int .u32 r.lo.to, .int .u8 r.hi.tag, .int .u32 r.hi.to] 72)).heap.size = w.heap.size + 1 := by simp); (try simp only [World.size_alloc]); (repeat (first | with_reducible exact Upd.refl _ _ | refine Upd.setCell ?_ (Or.inl (by dsimp only; omega)) _ | with_reducible refine Upd.drewN ?_ _ | with_reducible refine Upd.drew ?_ | with_reducible refine Upd.alloc ?_ _))

end Go.Proofs.YtiacdpoldgfpbaaGreat

namespace Go.Proofs.YtiacdpoldgfpbaaGreat
set_option linter.unusedSimpArgs false
set_option linter.unusedVariables false
set_option maxHeartbeats 600000
open Go.RowKit

theorem Keeps.frz {w w' : World} (h : Keeps w w') {a : Addr} (hl : a.block < w.heap.size) (hc : w.frozen? a = false) : w'.frozen? a = false := (Below.frozen h hl).trans hc

end Go.Proofs.YtiacdpoldgfpbaaGreat

namespace Go.Proofs.YtiacdpoldgfpbaaGreat
set_option linter.unusedSimpArgs false
set_option linter.unusedVariables false
set_option maxHeartbeats 600000
open Go.RowKit

theorem eql_same (x y : Edge) (h : x = y) (W : World) : (binOp .eql 31 (.agg #[.int .u8 x.tag, .int .u32 x.to]) (.agg #[.int .u8 y.tag, .int .u32 y.to])).run Tryz.prog W = .ok (.bool true) W := by rw [run_eql_edge]; simp [h]

theorem eql_other (x y : Edge) (h : x ≠ y) (W : World) : (binOp .eql 31 (.agg #[.int .u8 x.tag, .int .u32 x.to]) (.agg #[.int .u8 y.tag, .int .u32 y.to])).run Tryz.prog W = .ok (.bool false) W := by rw [run_eql_edge]; simp [h]

end Go.Proofs.YtiacdpoldgfpbaaGreat
