/-
  Built: a store and the document's, behind records that are found.
-/
import Derived.Test.YtoeoehbpahodnaaGreatPVBase
import Derived.Lib.SliceRun
namespace Go.Proofs.YtoeoehbpahodnaaGreat
set_option linter.unusedSimpArgs false
set_option linter.unusedVariables false
set_option maxHeartbeats 600000
open Go.RowKit

def IsRecs (w : World) (a : Option Addr) (len : Nat) (rs : List Rec) : Prop :=
  rs.length = len ∧ ∀ i r, rs[i]? = some r → r.ok ∧ ∃ b off, a = some ⟨b, off, none⟩ ∧ ∀ j, j < 7 → w.cell? ⟨b, off + i * 7 + j, none⟩ = (recVals r)[j]?

theorem Keeps.new {F : Nat → Prop} {w W W1 : World} (h : Keeps w W) (hu : Upd F W W1) (hf : ∀ k, F k → w.heap.size ≤ k) : Keeps w W1 := by
  have hs := h.size
  refine ⟨hu.os.trans h.os, hu.tape.trans h.tape, hu.output.trans h.output, Nat.le_trans hs hu.size, fun k hk => ?_⟩
  rw [hu.block k (by omega) (fun hh => by have := hf k hh; omega), h.block k hk]

structure Both (w0 w : World) (sb mb : Nat) (M : St) (L : List (Int × Rec)) : Prop where
  ex : ∃ F G, StoreRep F w sb M ∧ RefRep G w mb M L ∧ (∀ k, F k → ¬ G k) ∧ (∀ k, F k → w0.heap.size ≤ k) ∧ (∀ k, G k → w0.heap.size ≤ k)
  keep : Keeps w0 w

theorem Both.keeps {w0 w W : World} {sb mb : Nat} {M : St} {L : List (Int × Rec)} (h : Both w0 w sb mb M L) (hk : Keeps w W) : Both w0 W sb mb M L := by
  obtain ⟨⟨F, G, h1, h2, h3⟩, h4⟩ := h
  exact ⟨⟨F, G, h1.keeps hk, h2.keeps hk, h3⟩, h4.trans hk⟩

theorem Both.step {w0 w w1 w1' w2 : World} {sb mb : Nat} {M M' : St} {L L' : List (Int × Rec)} {F G : Nat → Prop} (h1 : StoreRep F w sb M) (h2 : RefRep G w mb M L) (h3 : ∀ k, F k → ¬ G k) (h4 : ∀ k, F k → w0.heap.size ≤ k) (h5 : ∀ k, G k → w0.heap.size ≤ k) (h6 : Keeps w0 w)
    (u1 : Upd F w w1) (s1 : StoreRep (Grow F w w1) w1 sb M') (k1 : Keeps w1 w1') (u2 : Upd G w1' w2) (s2 : RefRep (Grow G w1' w2) w2 mb M' L') : Both w0 w2 sb mb M' L' := by
  have z0 := h6.size
  have z1 := u1.size
  have z2 := k1.size
  refine ⟨⟨Grow F w w1, Grow G w1' w2, (s1.keeps k1).keep u2 ?_, s2, ?_, ?_, ?_⟩, ((h6.new u1 h4).trans k1).new u2 h5⟩
  · intro k hk hg
    rcases hk with hk | hk
    · exact h3 k hk hg
    · have := h2.lt k hg
      omega
  · intro k hk hg
    have hl := s1.lt k hk
    rcases hg with hg | hg
    · rcases hk with hk | hk
      · exact h3 k hk hg
      · have := h2.lt k hg
        omega
    · omega
  · intro k hk
    rcases hk with hk | hk
    · exact h4 k hk
    · omega
  · intro k hk
    rcases hk with hk | hk
    · exact h5 k hk
    · omega

theorem findSt_n (M : St) (r : Rec) : (M.findSt r).n = M.n := by
  unfold St.findSt
  split
  · rfl
  · split
    · rfl
    · split
      · rfl
      · rfl

theorem findSt_room (M : St) (r : Rec) : (M.findSt r).room = M.room := by
  unfold St.findSt
  split
  · rfl
  · split
    · rfl
    · split
      · rfl
      · rfl

theorem findSt_len (M : St) (r : Rec) : M.len ≤ (M.findSt r).len ∧ (M.findSt r).len ≤ M.len + 1 := by
  unfold St.findSt
  split
  · omega
  · split
    · omega
    · split
      · omega
      · have := putLen (cs := M.cs) (gone := M.gone) (r := r)
        unfold St.len
        simp only []
        omega

end Go.Proofs.YtoeoehbpahodnaaGreat

namespace Go.Proofs.YtoeoehbpahodnaaGreat
set_option linter.unusedSimpArgs false
set_option linter.unusedVariables false
set_option maxHeartbeats 600000
open Go.RowKit

theorem RefRep.room {F : Nat → Prop} {w : World} {mb : Nat} {M : St} {L : List (Int × Rec)} (h : RefRep F w mb M L) : w.cell? ⟨mb, 4, none⟩ = some (.int .i64 M.room) := by
  obtain ⟨⟨lv, gv, h1, -⟩, -⟩ := h
  rw [cell_of_row w mb 4 _ _ _ h1]
  rfl

end Go.Proofs.YtoeoehbpahodnaaGreat

namespace Go.Proofs.YtoeoehbpahodnaaGreat
set_option linter.unusedSimpArgs false
set_option linter.unusedVariables false
set_option maxHeartbeats 600000
open Go.RowKit

def RowI (w : World) (g : Nat) (ps : List Int) : Prop := ∃ cur : Array Value, w.heap[g]? = some (.cells cur 3 (0, 0)) ∧ ∀ (i : Nat) (x : Int), ps[i]? = some x → cur[i]? = some (Value.int .i64 x)

theorem RowI.cell {w : World} {g : Nat} {ps : List Int} (h : RowI w g ps) {i : Nat} {x : Int} (hx : ps[i]? = some x) : w.cell? ⟨g, i, none⟩ = some (.int .i64 x) := by
  obtain ⟨cur, h1, h2⟩ := h
  rw [cell_of_row w g i _ _ _ h1]
  simp only [h2 i x hx]

theorem RowI.frozen {w : World} {g : Nat} {ps : List Int} (h : RowI w g ps) (i : Nat) : w.frozen? ⟨g, i, none⟩ = false := by
  obtain ⟨cur, h1, h2⟩ := h
  exact frozen_of_row w g i _ _ h1

theorem RowI.lt {w : World} {g : Nat} {ps : List Int} (h : RowI w g ps) : g < w.heap.size := by
  obtain ⟨cur, h1, h2⟩ := h
  exact lt_of_heap h1

theorem RowI.keep {G : Nat → Prop} {w w' : World} {g : Nat} {ps : List Int} (h : RowI w g ps) (hu : Upd G w w') (hg : ¬ G g) : RowI w' g ps := by
  have hl := h.lt
  obtain ⟨cur, h1, h2⟩ := h
  exact ⟨cur, (hu.block g hl hg).trans h1, h2⟩

theorem RowI.keeps {w w' : World} {g : Nat} {ps : List Int} (h : RowI w g ps) (hk : Keeps w w') : RowI w' g ps := h.keep (hk.upd (fun _ => False)) (fun h => h)

theorem RowI.ints {w : World} {g : Nat} {ps : List Int} (h : RowI w g ps) : IntsAt w (some ⟨g, 0, none⟩) ps := fun i x hx => ⟨g, 0, rfl, by rw [Nat.zero_add]; exact h.cell hx⟩

theorem RowI.set {w : World} {g : Nat} {ps : List Int} (h : RowI w g ps) (i : Nat) (y : Int) (hi : i < ps.length) : RowI (w.setCell ⟨g, i, none⟩ (.int .i64 y)) g (ps.set i y) := by
  obtain ⟨cur, h1, h2⟩ := h
  refine ⟨_, Go.heap_setCell_same w g i _ _ (.int .i64 y) h1, fun j x hx => ?_⟩
  rw [Array.getElem?_setIfInBounds]
  by_cases hj : i = j
  · subst hj
    have hc := h2 i ps[i] (by simp [hi])
    have hs : i < cur.size := (Array.getElem?_eq_some_iff.1 hc).1
    rw [if_pos rfl, if_pos hs]
    simp [hi] at hx
    rw [hx]
  · rw [if_neg hj]
    rw [List.getElem?_set_ne hj] at hx
    exact h2 j x hx

theorem rowI_owns {w : World} {lo : Nat} {g : Nat} {n cap : Nat} {ps : List Int} (hown : w.ownsRow lo 3 1 (.slice (some ⟨g, 0, none⟩) n cap) n (ps.map (Value.int .i64))) : RowI w g ps ∧ lo ≤ g := by
  obtain ⟨cur0, hcur0⟩ := owns_type hown (k := g) rfl
  rcases hown.2 with ⟨h0, _⟩ | ⟨g', cap', cur, hv, hb, hg, _, _, hs, ht⟩
  · cases h0
  · cases hv
    refine ⟨⟨cur, hg, fun i x hx => ?_⟩, hb⟩
    have h1 : (ps.map (Value.int .i64))[i]? = some (.int .i64 x) := by rw [List.getElem?_map, hx]; rfl
    rw [← ht, List.getElem?_take] at h1
    split at h1
    · rw [Array.getElem?_toList] at h1
      exact h1
    · cases h1

def RowV (lo : Nat) (w : World) (a : Option Addr) (ps : List Int) : Prop := ps ≠ [] → ∃ g, a = some ⟨g, 0, none⟩ ∧ lo ≤ g ∧ RowI w g ps

theorem RowV.ints {lo : Nat} {w : World} {a : Option Addr} {ps : List Int} (h : RowV lo w a ps) : IntsAt w a ps := fun i x hx => by
  obtain ⟨g, ha, _, hr⟩ := h (fun e => by rw [e] at hx; simp at hx)
  rw [ha]
  exact hr.ints i x hx

theorem RowV.keeps {lo : Nat} {w w' : World} {a : Option Addr} {ps : List Int} (h : RowV lo w a ps) (hk : Keeps w w') : RowV lo w' a ps := fun hn => by
  obtain ⟨g, ha, hl, hr⟩ := h hn
  exact ⟨g, ha, hl, hr.keeps hk⟩

theorem info_int : (Tryz.prog.info? 3).map (fun i => (i.zero, i.size, i.bytes)) = some (some (.int .i64 0), 1, 8) := by kernel_rfl

theorem owns_none (w : World) (t : TypeId) : (w.alloc (.cells #[] t)).ownsRow w.heap.size t 1 (.slice (some ⟨w.heap.size, 0, none⟩) 0 0) 0 [] :=
  ⟨rfl, .inr ⟨w.heap.size, 0, #[], rfl, Nat.le_refl _, heap_alloc_new w _, Nat.le_refl _, by unfold maxLen; omega, rfl, rfl⟩⟩

set_option maxRecDepth 100000 in
theorem clone_calls (a : Option Addr) (cap : Nat) (ps : List Int) (w : World) (h : IntsAt w a ps) (hl : ps.length ≤ 1048576) :
    Calls Tryz.prog 69 #[.slice a ps.length cap] w fun e w' => ∃ a' cap', e = .returned (.slice a' ps.length cap') ∧ RowV w.heap.size w' a' ps ∧ Keeps w w' := by
  cases a with
  | none =>
    have hp : ps = [] := by
      cases ps with
      | nil => rfl
      | cons x l => obtain ⟨b, off, ha, _⟩ := h 0 x rfl; cases ha
    subst hp
    clear h hl
    rw [List.length_nil]
    have hnil := fun (W : World) => Lib.run_eql_slice_nil (P := Tryz.prog) W 22 3 none 0 cap 0 0 Tryz.underlying22
    go_enter Tryz.func69, Tryz.ntmps69
    go_wp2
    go_ret
    exact ⟨none, 0, rfl, fun hn => absurd rfl hn, Keeps.refl _⟩
  | some ad =>
    obtain ⟨i0, hi, hz0, hz1, hz2⟩ := info_parts info_int
    have hcells : ∀ j u, (ps.map (Value.int .i64))[j]? = some u → w.cell? (ad.add j) = some u := fun j u hj => by
      rw [List.getElem?_map, Option.map_eq_some_iff] at hj
      obtain ⟨x, hx, rfl⟩ := hj
      obtain ⟨b, off, ha, hc⟩ := h j x hx
      cases ha
      have hadd : (⟨b, off, none⟩ : Addr).add j = ⟨b, off + j, none⟩ := by
        unfold Addr.add
        split
        · rename_i h0
          rw [h0]
          rfl
        · rfl
      rw [hadd]
      exact hc
    obtain ⟨N, hN⟩ : ∃ N, N = ps.length := ⟨_, rfl⟩
    rw [← hN] at hl ⊢
    have HC := Lib.hid hcells
    have HN := Lib.hid hN
    have h63 : 0 + N ≤ maxLen := by unfold maxLen; omega
    clear h hcells hN
    have hnil := fun (W : World) => Lib.run_eql_slice_nil (P := Tryz.prog) W 22 3 (some ad) N cap 0 0 Tryz.underlying22
    go_enter Tryz.func69, Tryz.ntmps69
    go_wp2_with (first
      | (at_builtin; refine wpList_append_fresh rfl _ _ 22 rfl w.heap.size 3 i0 (.int .i64 0) 1 8 Tryz.underlying22 hi hz0 hz1 hz2 rfl (by decide) (.slice (some ⟨w.heap.size, 0, none⟩) 0 0) 0 [] rfl (owns_none w 3) ad N cap (ps.map (Value.int .i64)) rfl (by rw [List.length_map, ← HN.out, Nat.mul_one]) (fun j u hj => ((Keeps.refl w).alloc _).cell (HC.out j u hj)) (fun u hu => by rw [List.mem_map] at hu; obtain ⟨x, _, rfl⟩ := hu; rfl) h63 (by omega) (by simp) ?_; intro v' w3 hown3 hg3 hnew)
      | fail)
    obtain ⟨a', cap', rfl, ha'⟩ := owns_slice hown3
    go_wp2_with fail
    go_ret
    refine ⟨a', cap', by simp, fun hn => ?_, ?_⟩
    · obtain ⟨g, rfl⟩ := ha' (by rw [Nat.zero_add, HN.out]; intro e; exact hn (List.length_eq_zero_iff.1 e))
      rw [List.nil_append] at hown3
      obtain ⟨r1, r2⟩ := rowI_owns hown3
      exact ⟨g, rfl, r2, r1⟩
    · have hu : Upd (fun k => k = w.heap.size) (w.alloc (.cells #[] 3)) w3 := ⟨hg3.os, hg3.tape, hg3.output, hg3.size, fun k hk hn => hg3.block k hk (fun e => by simp [Value.ownBlock] at e; exact hn e)⟩
      exact ((((Keeps.refl w).alloc (.cells #[] 3)).upd _).trans' hu).keeps (fun k hk e => by omega)

end Go.Proofs.YtoeoehbpahodnaaGreat

namespace Go.Proofs.YtoeoehbpahodnaaGreat
set_option linter.unusedSimpArgs false
set_option linter.unusedVariables false
set_option maxHeartbeats 600000
open Go.RowKit

def bRest (_ : St) (l : Int) (lo hi : Edge) : (Edge × Int) ⊕ Rec := if lo = hi then .inl (lo, 0) else .inr ⟨1, l, l, lo, hi⟩

def zRest (_ : St) (l : Int) (lo hi : Edge) : (Edge × Int) ⊕ Rec := if hi.to = 0 then .inl (lo, 0) else .inr ⟨2, l, l, lo, hi⟩

def cRest (M : St) (l : Int) (lo hi : Edge) : (Edge × Int) ⊕ Rec :=
  if lo = hi then .inl (lo, 0) else match look M.cs lo.to with
    | none => .inr ⟨3, l, l, lo, hi⟩
    | some r => if r.top = l + 1 then (if r.hi = hi then .inr ⟨3, l, r.bot, r.lo, hi⟩ else .inr ⟨3, l, l, lo, hi⟩) else .inr ⟨3, l, l, lo, hi⟩

def qRest (M : St) (l : Int) (lo hi : Edge) : (Edge × Int) ⊕ Rec :=
  if hi.to = 0 then .inl (lo, 0) else match look M.cs lo.to with
    | none => .inr ⟨4, l, l, lo, hi⟩
    | some r => if lo = hi then (if r.top = l + 1 then .inr ⟨4, l, r.bot, r.lo, r.hi⟩ else .inr ⟨4, l, l, lo, hi⟩) else .inr ⟨4, l, l, lo, hi⟩

def makeAct (M : St) (f l : Int) (lo hi : Edge) (rest : (Edge × Int) ⊕ Rec) : (Edge × Int) ⊕ Rec :=
  if l < 0 ∨ M.n ≤ l then .inl (⟨0, 0⟩, 3)
  else if M.leads f lo (l + 1) = false ∨ M.leads f hi (l + 1) = false then .inl (⟨0, 0⟩, 1) else rest

def actE0 (M : St) : (Edge × Int) ⊕ Rec → Edge | .inl x => x.1 | .inr r => foundE M 0 r

theorem rec_ok {f l b : Int} {lo hi : Edge} (hf : 0 ≤ f ∧ f ≤ 255) (h0 : 0 ≤ l) (h1 : l ≤ 16) (hb : 0 ≤ b ∧ b ≤ 255) (hlo : lo.ok) (hhi : hi.ok) : (⟨f, l, b, lo, hi⟩ : Rec).ok :=
  ⟨hf, ⟨h0, by show l ≤ 255; omega⟩, hb, hlo, hhi⟩

theorem bdd_found0 {F : Nat → Prop} {w : World} {sb : Nat} {M : St} (h : StoreRep F w sb M) (r : Rec) (hr : r.ok) :
    Calls Tryz.prog 238 #[.pointer (some ⟨sb, 0, none⟩), .agg #[.int .u8 r.form, .int .u8 r.top, .int .u8 r.bot, .int .u8 r.lo.tag, .int .u32 r.lo.to, .int .u8 r.hi.tag, .int .u32 r.hi.to]] w fun e w' => e = .returned (.tuple #[.agg #[.int .u8 (foundE M 0 r).tag, .int .u32 (foundE M 0 r).to], .int .u8 (M.findErr r)]) ∧ Upd F w w' ∧ StoreRep (Grow F w w') w' sb (M.findSt r) := by
  have hf := fun (W : World) (hW : Keeps w W) => store_find (h.keeps hW) r hr
  by_cases he : M.findErr r = 0
  · have e1 : foundE M 0 r = ⟨0, M.findId r⟩ := if_pos he
    rw [e1, he]
    rw [he] at hf
    refine (bfound_ok sb r (M.findId r) w h.pos h.lt (fun W W1 => StoreRep (Grow F W W1) W1 sb (M.findSt r)) hf).mono ?_
    rintro e w' ⟨rfl, W, W1, h1, h2, h3, h4⟩
    exact ⟨rfl, h3.after h.lt h1 h2 h4⟩
  · have e1 : foundE M 0 r = ⟨0, 0⟩ := if_neg he
    rw [e1]
    refine (bfound_bad sb r (M.findId r) (M.findErr r) he w h.pos h.lt (fun W W1 => StoreRep (Grow F W W1) W1 sb (M.findSt r)) hf).mono ?_
    rintro e w' ⟨rfl, W, W1, h1, h2, h3, h4⟩
    exact ⟨rfl, h3.after h.lt h1 h2 h4⟩

theorem zdd_found0 {F : Nat → Prop} {w : World} {sb : Nat} {M : St} (h : StoreRep F w sb M) (r : Rec) (hr : r.ok) :
    Calls Tryz.prog 239 #[.pointer (some ⟨sb, 0, none⟩), .agg #[.int .u8 r.form, .int .u8 r.top, .int .u8 r.bot, .int .u8 r.lo.tag, .int .u32 r.lo.to, .int .u8 r.hi.tag, .int .u32 r.hi.to]] w fun e w' => e = .returned (.tuple #[.agg #[.int .u8 (foundE M 0 r).tag, .int .u32 (foundE M 0 r).to], .int .u8 (M.findErr r)]) ∧ Upd F w w' ∧ StoreRep (Grow F w w') w' sb (M.findSt r) := by
  have hf := fun (W : World) (hW : Keeps w W) => store_find (h.keeps hW) r hr
  by_cases he : M.findErr r = 0
  · have e1 : foundE M 0 r = ⟨0, M.findId r⟩ := if_pos he
    rw [e1, he]
    rw [he] at hf
    refine (yfound_ok sb r (M.findId r) w h.pos h.lt (fun W W1 => StoreRep (Grow F W W1) W1 sb (M.findSt r)) hf).mono ?_
    rintro e w' ⟨rfl, W, W1, h1, h2, h3, h4⟩
    exact ⟨rfl, h3.after h.lt h1 h2 h4⟩
  · have e1 : foundE M 0 r = ⟨0, 0⟩ := if_neg he
    rw [e1]
    refine (yfound_bad sb r (M.findId r) (M.findErr r) he w h.pos h.lt (fun W W1 => StoreRep (Grow F W W1) W1 sb (M.findSt r)) hf).mono ?_
    rintro e w' ⟨rfl, W, W1, h1, h2, h3, h4⟩
    exact ⟨rfl, h3.after h.lt h1 h2 h4⟩

end Go.Proofs.YtoeoehbpahodnaaGreat
