/-
  canon.Cube over the state (printed by wip/mk_cube.py).
-/
import Derived.Test.YtoeoehbpahodnaaGreatPKMake
namespace Go.Proofs.YtoeoehbpahodnaaGreat
set_option linter.unusedSimpArgs false
set_option linter.unusedVariables false
set_option maxHeartbeats 600000
open Go.RowKit

theorem StoreRep.fewK {F : Nat → Prop} {w : World} {sb : Nat} {M : St} (h : StoreRep F w sb M) : M.cs.length ≤ 1048576 := by
  obtain ⟨⟨ab, ib, ts, Fa, Fi, h1, h2, -⟩, -⟩ := h
  exact h2.few

theorem StoreRep.findId {F : Nat → Prop} {w : World} {sb : Nat} {M : St} (h : StoreRep F w sb M) (r : Rec) : 0 ≤ M.findId r ∧ M.findId r ≤ 1048578 := by
  have hf := h.fewK
  unfold St.findId
  split
  · rename_i id hi
    have hl := look_some (idOf_look hi)
    omega
  · split
    · omega
    · split
      · omega
      · have := putId_range h.wf.gone
        omega

theorem zero_ok : (⟨0, 0⟩ : Edge).ok := ⟨by decide, by decide⟩

def oneE (f n : Int) : Edge := if f = 5 then ⟨n, 1⟩ else ⟨0, 1⟩

set_option maxRecDepth 100000 in
theorem one_calls (f n : Int) (w : World) (hf : isFormB f = true) (hn0 : 0 ≤ n) (hn : n ≤ 16) : Calls Tryz.prog 184 #[.int .u8 f, .int .i64 n] w fun e w' => e = .returned (.agg #[.int .u8 (oneE f n).tag, .int .u32 (oneE f n).to]) ∧ Keeps w w' := by
  have h2 : mayB n = true := by simp [mayB, hn0, hn]
  by_cases h5 : f = 5
  · subst h5
    go_enter Tryz.func184, Tryz.ntmps184
    go_wp2_with (first | (go_at_call 79; refine (isForm_calls _ _).mono ?_; rintro e w' ⟨rfl, rfl⟩) | (go_at_call 216; refine (may_calls _ _).mono ?_; rintro e w' ⟨rfl, rfl⟩) | fail)
    all_goals refine bodyPost_ret (v := .agg #[.int .u8 n, .int .u32 1]) (by simp [results, Tryz.results184, go_sem]) rfl ⟨rfl, by (exact kp)⟩
  · have h6 : (f == 5) = false := by simp [h5]
    have e : oneE f n = ⟨0, 1⟩ := if_neg h5
    rw [e]
    go_enter Tryz.func184, Tryz.ntmps184
    go_wp2_with (first | (go_at_call 79; refine (isForm_calls _ _).mono ?_; rintro e w' ⟨rfl, rfl⟩) | (go_at_call 216; refine (may_calls _ _).mono ?_; rintro e w' ⟨rfl, rfl⟩) | fail)
    all_goals refine bodyPost_ret (v := .agg #[.int .u8 0, .int .u32 1]) (by simp [results, Tryz.results184, go_sem]) rfl ⟨rfl, by (exact kp)⟩

structure CubeInv (F : Nat → Prop) (w wr : World) (sb eb : Nat) (M : St) (v : Edge) (G : Nat → Prop) : Prop where
  upd : Upd F w wr
  rep : StoreRep G wr sb M
  sub : ∀ j, G j → F j ∨ (w.heap.size ≤ j ∧ j ≠ w.heap.size ∧ j ≠ eb)
  e0 : wr.cell? ⟨eb, 0, none⟩ = some (.int .u8 v.tag)
  e1 : wr.cell? ⟨eb, 1, none⟩ = some (.int .u32 v.to)
  ef : ∀ o, wr.frozen? ⟨eb, o, none⟩ = false
  z0 : wr.cell? ⟨w.heap.size, 0, none⟩ = some (.int .u8 0)
  z1 : wr.cell? ⟨w.heap.size, 1, none⟩ = some (.int .u32 0)
  zf : ∀ o, wr.frozen? ⟨w.heap.size, o, none⟩ = false
  se : w.heap.size < eb
  sz : eb < wr.heap.size

theorem CubeInv.call {F G : Nat → Prop} {w wr W w2 : World} {sb eb : Nat} {M M2 : St} {v : Edge} (h : CubeInv F w wr sb eb M v G) (hlt : ∀ k, F k → k < w.heap.size) (hk : Keeps wr W) (hu : Upd G W w2) (hS : StoreRep (Grow G W w2) w2 sb M2) :
    CubeInv F w w2 sb eb M2 v (Grow G W w2) := by
  have hse := h.se
  have hsz := h.sz
  have s1 := hk.size
  have s2 := hu.size
  have nG : ∀ j, j = w.heap.size ∨ j = eb → ¬ G j := by
    intro j hj hg
    rcases h.sub j hg with h1 | h1
    · have := hlt j h1
      omega
    · omega
  have hub : Upd G wr w2 := (hk.upd G).trans' hu
  have hU : Upd F w w2 := by
    refine ⟨hub.os.trans h.upd.os, hub.tape.trans h.upd.tape, hub.output.trans h.upd.output, Nat.le_trans h.upd.size hub.size, fun k hk' hf => ?_⟩
    have : ¬ G k := fun hg => by
      rcases h.sub k hg with h1 | h1
      · exact hf h1
      · omega
    rw [hub.block k (Nat.lt_of_lt_of_le hk' h.upd.size) this, h.upd.block k hk' hf]
  refine ⟨hU, hS, ?_, hub.cell (nG eb (.inr rfl)) h.e0, hub.cell (nG eb (.inr rfl)) h.e1, fun o => hub.frozen (a := ⟨eb, o, none⟩) hsz (nG eb (.inr rfl)) (h.ef o), hub.cell (nG _ (.inl rfl)) h.z0, hub.cell (nG _ (.inl rfl)) h.z1,
    fun o => hub.frozen (a := ⟨w.heap.size, o, none⟩) (by show w.heap.size < wr.heap.size; omega) (nG _ (.inl rfl)) (h.zf o), hse, by omega⟩
  intro j hj
  rcases hj with hj | hj
  · exact h.sub j hj
  · right
    omega

theorem CubeInv.put {F G : Nat → Prop} {w wr : World} {sb eb : Nat} {M : St} {v v2 : Edge} (h : CubeInv F w wr sb eb M v G) (hlt : ∀ k, F k → k < w.heap.size) (o : Obj) :
    CubeInv F w (((wr.setCell ⟨eb, 0, none⟩ (.int .u8 v2.tag)).setCell ⟨eb, 1, none⟩ (.int .u32 v2.to)).alloc o) sb eb M v2 G := by
  have hse := h.se
  have hsz := h.sz
  have n1 : ¬ eb = wr.heap.size := by omega
  have n2 : ¬ w.heap.size = wr.heap.size := by omega
  have n3 : ¬ w.heap.size = eb := by omega
  have n4 : w.heap.size < wr.heap.size := by omega
  have c0 := h.e0
  have c1 := h.e1
  have d0 := h.z0
  have d1 := h.z1
  refine ⟨?_, ?_, h.sub, ?_, ?_, ?_, ?_, ?_, ?_, hse, ?_⟩
  · exact ((h.upd.setCell (Or.inr (by show w.heap.size ≤ eb; omega)) _).setCell (Or.inr (by show w.heap.size ≤ eb; omega)) _).alloc o
  · refine h.rep.keep (G := fun k => k = eb) ((((Upd.refl (fun k => k = eb) wr).setCell (p := ⟨eb, 0, none⟩) (Or.inl rfl) _).setCell (p := ⟨eb, 1, none⟩) (Or.inl rfl) _).alloc o) ?_
    rintro k hk' rfl
    rcases h.sub _ hk' with h1 | h1
    · have := hlt _ h1
      omega
    · omega
  · simp [go_sem, c0, c1, hsz, n1]
  · simp [go_sem, c0, c1, hsz, n1]
  · intro q
    rw [World.frozen?_alloc_old _ _ _ (by simp only [World.size_setCell]; show eb ≠ wr.heap.size; omega), World.frozen?_setCell, World.frozen?_setCell]
    exact h.ef q
  · simp [go_sem, d0, n3, n4, n2]
  · simp [go_sem, d1, n3, n4, n2]
  · intro q
    rw [World.frozen?_alloc_old _ _ _ (by simp only [World.size_setCell]; show w.heap.size ≠ wr.heap.size; omega), World.frozen?_setCell, World.frozen?_setCell]
    exact h.zf q
  · simp only [World.size_setCell, World.size_alloc]
    omega

end Go.Proofs.YtoeoehbpahodnaaGreat
