/-
  A block in which edges lie, one behind the other.
-/
import Derived.Test.YtoeoehbpahodnaaPKB
import Derived.Test.YtoeoehbpahodnaaPMeansA
import Derived.Test.YtoeoehbpahodnaaPSwapA
import Derived.Maps.OwnSet
import Derived.Maps.Keyed
import Derived.DeepKeys4
namespace Go.Proofs.Ytoeoehbpahodnaa
set_option linter.unusedSimpArgs false
set_option linter.unusedVariables false
set_option maxHeartbeats 600000
open Go.RowKit

def RowE (w : World) (g : Nat) (es : List Edge) : Prop := ∃ cur : Array Value, w.heap[g]? = some (.cells cur 63 (0, 0)) ∧ ∀ (i : Nat) (e : Edge), es[i]? = some e → cur[i * 2]? = some (Value.int .u8 e.tag) ∧ cur[i * 2 + 1]? = some (Value.int .u32 e.to)

theorem RowE.cell {w : World} {g : Nat} {es : List Edge} (h : RowE w g es) {i : Nat} {e : Edge} (hx : es[i]? = some e) : w.cell? ⟨g, i * 2, none⟩ = some (.int .u8 e.tag) ∧ w.cell? ⟨g, i * 2 + 1, none⟩ = some (.int .u32 e.to) := by
  obtain ⟨cur, h1, h2⟩ := h
  obtain ⟨a, b⟩ := h2 i e hx
  exact ⟨by rw [cell_of_row w g _ _ _ _ h1]; simp only [a], by rw [cell_of_row w g _ _ _ _ h1]; simp only [b]⟩

theorem RowE.frozen {w : World} {g : Nat} {es : List Edge} (h : RowE w g es) (i : Nat) : w.frozen? ⟨g, i, none⟩ = false := by
  obtain ⟨cur, h1, h2⟩ := h
  exact frozen_of_row w g i _ _ h1

theorem RowE.lt {w : World} {g : Nat} {es : List Edge} (h : RowE w g es) : g < w.heap.size := by
  obtain ⟨cur, h1, h2⟩ := h
  exact lt_of_heap h1

theorem RowE.keep {G : Nat → Prop} {w w' : World} {g : Nat} {es : List Edge} (h : RowE w g es) (hu : Upd G w w') (hg : ¬ G g) : RowE w' g es := by
  have hl := h.lt
  obtain ⟨cur, h1, h2⟩ := h
  exact ⟨cur, (hu.block g hl hg).trans h1, h2⟩

theorem RowE.keeps {w w' : World} {g : Nat} {es : List Edge} (h : RowE w g es) (hk : Keeps w w') : RowE w' g es := h.keep (hk.upd (fun _ => False)) (fun h => h)

theorem RowE.at {w : World} {g : Nat} {es : List Edge} (h : RowE w g es) (hok : ∀ e ∈ es, e.ok) : EdgesAt w (some ⟨g, 0, none⟩) es := fun i e he => ⟨hok e (List.mem_of_getElem? he), g, 0, rfl, by rw [Nat.zero_add]; exact (h.cell he).1, by rw [Nat.zero_add]; exact (h.cell he).2⟩

theorem RowE.set {w : World} {g : Nat} {es : List Edge} (h : RowE w g es) (i : Nat) (e : Edge) (hi : i < es.length) : RowE ((w.setCell ⟨g, i * 2, none⟩ (.int .u8 e.tag)).setCell ⟨g, i * 2 + 1, none⟩ (.int .u32 e.to)) g (es.set i e) := by
  obtain ⟨cur, h1, h2⟩ := h
  have h3 := Go.heap_setCell_same w g (i * 2) _ _ (.int .u8 e.tag) h1
  refine ⟨_, Go.heap_setCell_same _ g (i * 2 + 1) _ _ (.int .u32 e.to) h3, fun j x hx => ?_⟩
  obtain ⟨a, b⟩ := h2 i es[i] (by simp [hi])
  have l1 := (Array.getElem?_eq_some_iff.1 a).1
  have l2 := (Array.getElem?_eq_some_iff.1 b).1
  by_cases hj : i = j
  · subst hj
    simp [hi] at hx
    subst hx
    constructor
    · rw [Array.getElem?_setIfInBounds, if_neg (by omega), Array.getElem?_setIfInBounds, if_pos rfl, if_pos l1]
    · rw [Array.getElem?_setIfInBounds, if_pos rfl, if_pos (by simpa using l2)]
  · rw [List.getElem?_set_ne hj] at hx
    obtain ⟨c, d⟩ := h2 j x hx
    constructor
    · rw [Array.getElem?_setIfInBounds, if_neg (by omega), Array.getElem?_setIfInBounds, if_neg (by omega)]
      exact c
    · rw [Array.getElem?_setIfInBounds, if_neg (by omega), Array.getElem?_setIfInBounds, if_neg (by omega)]
      exact d

theorem info_edge : (Try.prog.info? 63).map (fun i => (i.zero, i.size, i.bytes)) = some (some (.agg #[.int .u8 0, .int .u32 0]), 2, 8) := by kernel_rfl

theorem rowE_made {w : World} {blk n : Nat} (h : w.ownsRow blk 63 2 (.slice (some ⟨blk, 0, none⟩) n n) n (madeCells (Value.agg #[.int .u8 0, .int .u32 0]).cells (n * 2)).toList) : RowE w blk (List.replicate n ⟨0, 0⟩) := by
  obtain ⟨cur0, hcur0⟩ := owns_type h (k := blk) rfl
  rcases h.2 with ⟨h0, _⟩ | ⟨g', cap', cur, hv, hb, hg, _, _, hs, ht⟩
  · cases h0
  · cases hv
    have key : ∀ j, j < n * 2 → cur[j]? = some (if j % 2 = 0 then Value.int .u8 0 else Value.int .u32 0) := fun j hj => by
      have h1 : (madeCells (Value.agg #[.int .u8 0, .int .u32 0]).cells (n * 2)).toList[j]? = some (if j % 2 = 0 then Value.int .u8 0 else Value.int .u32 0) := by
        simp [madeCells, Value.cells, hj]
        rcases Nat.mod_two_eq_zero_or_one j with q | q
        · rw [q]; rfl
        · rw [q]; rfl
      rw [← ht, List.getElem?_take, if_pos hj, Array.getElem?_toList] at h1
      exact h1
    refine ⟨cur, hg, fun i e he => ?_⟩
    have hi : i < n := by simpa using (List.getElem?_eq_some_iff.1 he).1
    have hee : e = ⟨0, 0⟩ := by
      rw [List.getElem?_replicate, if_pos hi] at he
      exact (Option.some.inj he).symm
    subst hee
    constructor
    · rw [key _ (by omega), if_pos (by omega)]
    · rw [key _ (by omega), if_neg (by omega)]

end Go.Proofs.Ytoeoehbpahodnaa

namespace Go.Proofs.Ytoeoehbpahodnaa
set_option linter.unusedSimpArgs false
set_option linter.unusedVariables false
set_option maxHeartbeats 600000
open Go.ChangeShapes Go.WideShapes Go.ChangeAt Go.RowKit

def IsInts (w : World) (a : Option Addr) (len : Nat) (ps : List Int) : Prop := ps.length = len ∧ IntsAt w a ps ∧ ∀ x ∈ ps, (Lit.int .i64 x).wf = true

set_option maxRecDepth 100000 in
theorem open_intRow {H : Type} {enc : TypeId × Value → H} {W : World} {base : Nat} {spare : Nat → Bool} {held : Bool} {a : Option Addr} {len cap : Nat} {d : DataW H} {p : List MemPlace}
    (h : DataW.Trod enc Try.prog W base spare held 23 (.slice a len cap) d p) : ∃ ps : List Int, IsInts W a len ps := by
  obtain ⟨rs, h1, h2⟩ := open_structs (k := 1) (fun (r : Int) cs => (Lit.int .i64 r).wf = true ∧ cs = [.int .i64 r]) Try.underlying23 (by kernel_rfl) (by decide) (fun n cs x hx => by
    obtain ⟨r, h1, _, h2⟩ := DataW.trod_int Try.underlying3 hx
    exact ⟨by rw [h1]; rfl, r, h2, h1⟩) h
  refine ⟨rs, h1, fun i r hr => ?_, fun x hx => ?_⟩
  · obtain ⟨b, off, cs, ha, ⟨hok, rfl⟩, hc⟩ := h2 i r hr
    have := hc 0 (by decide)
    rw [Nat.mul_one, Nat.add_zero] at this
    exact ⟨b, off, ha, this⟩
  · obtain ⟨i, hi⟩ := List.mem_iff_getElem?.1 hx
    obtain ⟨b, off, cs, ha, ⟨hok, rfl⟩, hc⟩ := h2 i x hi
    exact hok

instance : Inhabited (Int × Edge) := ⟨(0, Edge.zero)⟩

end Go.Proofs.Ytoeoehbpahodnaa

namespace Go.Proofs.Ytoeoehbpahodnaa
set_option linter.unusedSimpArgs false
set_option linter.unusedVariables false
set_option maxHeartbeats 600000
open Go.RowKit

set_option maxRecDepth 100000 in
theorem laidC : laidOutB Try.prog = true := by kernel_rfl

noncomputable def placeL (e : Edge) (l : Int) : Lit := .string (keyBytes [.int .u8 e.tag, .int .u32 e.to, .int .i64 l])

set_option maxRecDepth 100000 in
theorem types_two : 2 ≤ Try.prog.types.size := of_decide_eq_true (by kernel_rfl)

theorem types_big : ∃ d, Try.prog.types.size = d + 2 := ⟨Try.prog.types.size - 2, by have := types_two; omega⟩

def edgeD (x : Edge) : DataW Unit := .agg [.lit (.int .u8 x.tag), .lit (.int .u32 x.to)]

def edgeElem (v : Value) : Option (DataW Unit × List MemPlace) :=
  match v with
  | .agg a => match a.toList with
    | [.int .u8 t, .int .u32 n] => some (edgeD ⟨t, n⟩, [])
    | _ => none
  | _ => none

theorem edgeElem_mk (x : Edge) : edgeElem (.agg #[.int .u8 x.tag, .int .u32 x.to]) = some (edgeD x, []) := rfl

theorem edgeD_inj {x y : Edge} (h : edgeD x = edgeD y) : x = y := by
  unfold edgeD at h
  cases x
  cases y
  simp at h
  obtain ⟨a, b⟩ := h
  subst a b
  rfl

theorem edgeElem_inv {v : Value} {x : Edge} {ps : List MemPlace} (h : edgeElem v = some (edgeD x, ps)) : v = .agg #[.int .u8 x.tag, .int .u32 x.to] := by
  unfold edgeElem at h
  split at h
  · rename_i a
    split at h
    · rename_i t n ha
      have h1 := edgeD_inj (congrArg Prod.fst (Option.some.inj h))
      subst h1
      show Value.agg a = .agg #[.int .u8 t, .int .u32 n]
      congr 1
      exact Array.toList_inj.1 ha
    · cases h
  · cases h

theorem zeroEdge (w : World) : (zeroValue 63).run Try.prog w = .ok (.agg #[.int .u8 (⟨0, 0⟩ : Edge).tag, .int .u32 (⟨0, 0⟩ : Edge).to]) w := by kernel_rfl

structure MemoOk (f g : Int) (M : St) (V : List (Edge × Int)) (D : DataW Unit) : Prop where
  isMap : Go.Maps.IsMap D
  fit : ∀ p ∈ V, p.1.ok ∧ 0 ≤ p.2 ∧ p.2 ≤ 16 ∧ M.leads f p.1 p.2 = true
  keys : ∀ e l, e.ok → 0 ≤ l → l ≤ 16 → (Go.Maps.has D (placeL e l) = true ↔ (e, l) ∈ V)
  good : ∀ p ∈ V, ∃ x, D.atKey (placeL p.1 p.2) (edgeD ⟨0, 0⟩) = edgeD x ∧ GoodC f g M p.1 p.2 x

theorem MemoOk.empty (f g : Int) (M : St) : MemoOk f g M [] (.map []) := by
  refine ⟨Go.Maps.isMap_empty, fun p h => by simp at h, fun e l _ _ _ => ?_, fun p h => by simp at h⟩
  simp [Go.Maps.has_eq]

theorem MemoOk.ext {f g : Int} {M M' : St} {V : List (Edge × Int)} {D : DataW Unit} (h : MemoOk f g M V D) (hE : Ext M M') (hw : M.wf) (hf : 1 ≤ f ∧ f ≤ 5) (hg : 1 ≤ g ∧ g ≤ 5) : MemoOk f g M' V D :=
  ⟨h.isMap, fun p hp => by obtain ⟨a, b, c, d⟩ := h.fit p hp; exact ⟨a, b, c, hE.leads d⟩, h.keys, fun p hp => by
    obtain ⟨x, a, b⟩ := h.good p hp
    exact ⟨x, a, b.ext hE hw (h.fit p hp).2.2.2 hf hg⟩⟩

theorem MemoOk.none {f g : Int} {M : St} {V : List (Edge × Int)} {D : DataW Unit} (h : MemoOk f g M V D) {e : Edge} {l : Int} (he : e.ok) (h0 : 0 ≤ l) (h1 : l ≤ 16) (hp : (e, l) ∉ V) : Go.Maps.has D (placeL e l) = false ∧ D.atKey (placeL e l) (edgeD ⟨0, 0⟩) = edgeD ⟨0, 0⟩ := by
  have hh : Go.Maps.has D (placeL e l) = false := by
    cases hb : Go.Maps.has D (placeL e l) with
    | false => rfl
    | true => exact absurd ((h.keys e l he h0 h1).1 hb) hp
  exact ⟨hh, Go.Maps.atKey_of_not_has hh _⟩

end Go.Proofs.Ytoeoehbpahodnaa

namespace Go.Proofs.Ytoeoehbpahodnaa
set_option linter.unusedSimpArgs false
set_option linter.unusedVariables false
set_option maxHeartbeats 600000
open Go.RowKit

def MadeAt (f : Int) (M : St) (bs : List Bool) (k off : Nat) (l : Int) (e : Edge) : Prop := IsT f M k ((bs.drop off).take (2 ^ k)) l e ∧ rightK M f e l

theorem MadeAt.ext {f : Int} {M M' : St} {bs : List Bool} (hE : Ext M M') (hw : M.wf) (hf : 1 ≤ f ∧ f ≤ 5) {k off : Nat} {l : Int} {e : Edge} (h : MadeAt f M bs k off l e) : MadeAt f M' bs k off l e :=
  ⟨IsT.ext hE hf _ _ _ _ h.1, rightK_ext hE hw h.2⟩

theorem MadeAt.pair {f : Int} {M : St} {bs : List Bool} {k off : Nat} {l : Int} {lo hi e : Edge} (h1 : MadeAt f M bs k off (l + 1) lo) (h2 : MadeAt f M bs k (off + 2 ^ k) (l + 1) hi) (h3 : Pair f M l lo hi e) (hr : rightK M f e l) (hlen : off + 2 ^ (k + 1) ≤ bs.length) : MadeAt f M bs (k + 1) off l e := by
  have e2 : 2 ^ (k + 1) = 2 ^ k + 2 ^ k := by rw [Nat.pow_succ]; omega
  have hp : 0 < 2 ^ k := Nat.pow_pos (by decide)
  refine ⟨⟨by simp only [List.length_take, List.length_drop]; omega, lo, hi, ?_, ?_, h3⟩, hr⟩
  · rw [List.take_take, show min (2 ^ k) (2 ^ (k + 1)) = 2 ^ k by omega]
    exact h1.1
  · rw [List.drop_take, List.drop_drop, show 2 ^ (k + 1) - 2 ^ k = 2 ^ k by omega]
    exact h2.1

theorem kAct_mkK {M : St} {f l : Int} {lo hi : Edge} (hf : 1 ≤ f ∧ f ≤ 5) : kAct M f l lo hi = mkK f M l lo hi := by
  have hff : f = 1 ∨ f = 2 ∨ f = 3 ∨ f = 4 ∨ f = 5 := by omega
  rcases hff with rfl | rfl | rfl | rfl | rfl <;> rfl

theorem mkK_ok {f : Int} {M : St} {l : Int} {lo hi : Edge} (h : M.wf) (hf : M.cs.length ≤ 1048576) (hlo : lo.ok) (hhi : hi.ok) (h0 : 0 ≤ l) (h1 : l ≤ 255) (hff : 1 ≤ f ∧ f ≤ 5) : (mkE f M (mkK f M l lo hi)).ok := by
  have hc : f = 1 ∨ f = 2 ∨ f = 3 ∨ f = 4 ∨ f = 5 := by omega
  rcases hc with rfl | rfl | hc | hc | hc
  · rw [mkK1]
    show (actE0 M _).ok
    unfold makeAct bRest
    repeat' split
    all_goals first | exact edge0_ok | exact hlo | exact foundE_fit h hf 0 (by omega) _
  · rw [mkK2]
    show (actE0 M _).ok
    unfold makeAct zRest
    repeat' split
    all_goals first | exact edge0_ok | exact hlo | exact foundE_fit h hf 0 (by omega) _
  · have e : mkK f M l lo hi = mkA f M l lo hi := by subst hc; rfl
    rw [e]; exact mkE_ok h hf hlo hhi h0 h1 (.inl hc)
  · have e : mkK f M l lo hi = mkA f M l lo hi := by subst hc; rfl
    rw [e]; exact mkE_ok h hf hlo hhi h0 h1 (.inr (.inl hc))
  · have e : mkK f M l lo hi = mkA f M l lo hi := by subst hc; rfl
    rw [e]; exact mkE_ok h hf hlo hhi h0 h1 (.inr (.inr hc))

end Go.Proofs.Ytoeoehbpahodnaa

namespace Go.Proofs.Ytoeoehbpahodnaa
set_option linter.unusedSimpArgs false
set_option linter.unusedVariables false
set_option maxHeartbeats 600000
open Go.RowKit

theorem kvAct_view {f : Int} (hf : 1 ≤ f ∧ f ≤ 5) {M : St} {e : Edge} {l : Int} : kvAct M f e l = viewAct M f e l := by
  have hff : f = 1 ∨ f = 2 ∨ f = 3 ∨ f = 4 ∨ f = 5 := by omega
  rcases hff with rfl | rfl | rfl | rfl | rfl <;> rfl

theorem upd_boxes {F : Nat → Prop} {w0 wc W : World} {fn : FuncId} {args : Array Value} {Q : Ending → World → Prop} {R : World → Prop} (hlt : ∀ k, F k → k < w0.heap.size) (hs : w0.heap.size ≤ wc.heap.size)
    (h : Calls Try.prog fn args W fun r w' => Q r w' ∧ Upd F W w' ∧ R w') :
    Calls Try.prog fn args W fun r w' => (Q r w' ∧ Upd F W w' ∧ R w') ∧ (∀ j o, wc.heap.size ≤ j → j < W.heap.size → w'.cell? ⟨j, o, none⟩ = W.cell? ⟨j, o, none⟩) ∧ (∀ j o, wc.heap.size ≤ j → j < W.heap.size → w'.frozen? ⟨j, o, none⟩ = W.frozen? ⟨j, o, none⟩) ∧ (∀ j, j < W.heap.size → j < w'.heap.size) ∧ (∀ j, j < W.heap.size → ¬ j = w'.heap.size) ∧ (∀ j, j < W.heap.size → ¬ w'.heap.size = j) := by
  refine h.mono fun r w' hh => ⟨hh, fun j o h1 h2 => ?_, fun j o h1 h2 => ?_, fun j hj => by have := hh.2.1.size; omega, fun j hj => by have := hh.2.1.size; omega, fun j hj => by have := hh.2.1.size; omega⟩
  · have := hh.2.1.block j h2 (fun hf => by have := hlt _ hf; omega)
    simp only [World.cell?, this]
  · exact World.frozen?_of_block (a := ⟨j, o, none⟩) (hh.2.1.block j h2 (fun hf => by have := hlt _ hf; omega))

structure Boxed2 (F : Nat → Prop) (w0 wy : World) (sb : Nat) (M1 : St) (B C : Nat) (lo hi : Edge) (F1 : Nat → Prop) : Prop where
  a0 : wy.cell? ⟨B, 0, none⟩ = some (.int .u8 lo.tag)
  a1 : wy.cell? ⟨B, 1, none⟩ = some (.int .u32 lo.to)
  c0 : wy.cell? ⟨C, 0, none⟩ = some (.int .u8 hi.tag)
  c1 : wy.cell? ⟨C, 1, none⟩ = some (.int .u32 hi.to)
  upd : Upd F w0 wy
  rep : StoreRep F1 wy sb M1
  sub : ∀ j, F1 j → F j ∨ w0.heap.size ≤ j
  nB : ¬ F1 B
  nC : ¬ F1 C
  gB : w0.heap.size ≤ B
  gC : w0.heap.size ≤ C

theorem Upd.later {F G : Nat → Prop} {a b c : World} (h : Upd F a b) (k : Upd G b c) (hG : ∀ i, i < a.heap.size → G i → F i) : Upd F a c :=
  ⟨k.os.trans h.os, k.tape.trans h.tape, k.output.trans h.output, Nat.le_trans h.size k.size, fun i hi hf => (k.block i (Nat.lt_of_lt_of_le hi h.size) (fun hg => hf (hG i hi hg))).trans (h.block i hi hf)⟩

theorem boxed2 {F : Nat → Prop} {w0 W w2 wy : World} {sb : Nat} {M1 : St} {B C : Nat} {lo hi : Edge} (hlt : ∀ k, F k → k < w0.heap.size) (hW : Keeps w0 W) (hu : Upd F W w2) (hS : StoreRep (Grow F W w2) w2 sb M1) (hG : Upd (fun k => k = B ∨ k = C) w2 wy)
    (hB : w0.heap.size ≤ B ∧ (B < W.heap.size ∨ w2.heap.size ≤ B)) (hC : w0.heap.size ≤ C ∧ (C < W.heap.size ∨ w2.heap.size ≤ C)) (a0 : wy.cell? ⟨B, 0, none⟩ = some (.int .u8 lo.tag)) (a1 : wy.cell? ⟨B, 1, none⟩ = some (.int .u32 lo.to))
    (c0 : wy.cell? ⟨C, 0, none⟩ = some (.int .u8 hi.tag)) (c1 : wy.cell? ⟨C, 1, none⟩ = some (.int .u32 hi.to)) : Boxed2 F w0 wy sb M1 B C lo hi (Grow F W w2) := by
  have hs1 := hW.size
  have no : ∀ X, (w0.heap.size ≤ X ∧ (X < W.heap.size ∨ w2.heap.size ≤ X)) → ¬ Grow F W w2 X := fun X hX hg => by
    rcases hg with hg | hg
    · have := hlt _ hg; omega
    · omega
  refine ⟨a0, a1, c0, c1, ((Keeps.upd hW F).trans' hu).later hG (fun i hi hg => ?_), hS.keep hG (fun k hk hg => ?_), fun j hj => ?_, no B hB, no C hC, hB.1, hC.1⟩
  · rcases hg with rfl | rfl <;> omega
  · rcases hg with rfl | rfl
    · exact no _ hB hk
    · exact no _ hC hk
  · rcases hj with hj | hj
    · exact .inl hj
    · exact .inr (by omega)

section
variable {F : Nat → Prop} {w : World} {sb wb b : Nat} {f g : Int} {M : St} {V : List (Edge × Int)} {D : DataW Unit}

theorem updR {R : Nat} {x y : World} (h : Upd (fun j => j = R) x y) (o : Nat) (v : Value) : Upd (fun j => j = R) x (y.setCell ⟨R, o, none⟩ v) := h.setCell (Or.inl rfl) v

theorem findSt_ext {M : St} (h : M.wf) (r : Rec) : Ext M (M.findSt r) := by
  cases hi : M.idOf r with
  | some id =>
    rw [(find_old h (idOf_look hi)).2.2]
    exact Ext.refl M
  | none =>
    cases hb : M.bad r with
    | true =>
      have : M.findSt r = M := by unfold St.findSt; rw [hi]; simp [hb]
      rw [this]
      exact Ext.refl M
    | false =>
      by_cases he : M.findErr r = 0
      · exact (find_zero h hb he).2.1
      · rw [(find_full hb he).2.1]
        exact Ext.refl M

theorem act_ext {M : St} (h : M.wf) (a : (Edge × Int) ⊕ Rec) : Ext M (actSt M a) := by
  cases a with
  | inl x => exact Ext.refl M
  | inr r => exact findSt_ext h r

end

end Go.Proofs.Ytoeoehbpahodnaa

namespace Go.Proofs.Ytoeoehbpahodnaa
set_option linter.unusedSimpArgs false
set_option linter.unusedVariables false
set_option maxHeartbeats 600000
open Go.RowKit

def rv : Nat → Nat → Nat → Int
  | _, 0, _ => 0
  | y, k + 1, m => (if y / 2 ^ k % 2 = 1 then 2 ^ m else 0) + rv (y % 2 ^ k) k (m + 1)

theorem tabX_at {g : Int → Bool} : ∀ (k m : Nat) (x : Int) (y : Nat), y < 2 ^ k → (tabX g k m x)[y]? = some (g (x + rv y k m)) := by
  intro k
  induction k with
  | zero =>
    intro m x y hy
    have : y = 0 := by simpa using hy
    subst this
    show some (g x) = some (g (x + 0))
    rw [Int.add_zero]
  | succ k ih =>
    intro m x y hy
    have hp : 0 < 2 ^ k := Nat.pow_pos (by decide)
    have e2 : 2 ^ (k + 1) = 2 ^ k + 2 ^ k := by rw [Nat.pow_succ]; omega
    show (tabX g k (m + 1) x ++ tabX g k (m + 1) (x + 2 ^ m))[y]? = some (g (x + ((if y / 2 ^ k % 2 = 1 then 2 ^ m else 0) + rv (y % 2 ^ k) k (m + 1))))
    have hl := tabX_len g k (m + 1) x
    by_cases h : y < 2 ^ k
    · rw [List.getElem?_append_left (by rw [hl]; exact h), ih _ _ _ h, Nat.div_eq_of_lt h, Nat.mod_eq_of_lt h, if_neg (by decide), Int.zero_add]
    · have h1 : y / 2 ^ k = 1 := by
        rw [Nat.div_eq_iff hp]
        omega
      have h2 : y % 2 ^ k = y - 2 ^ k := by
        have := Nat.div_add_mod y (2 ^ k)
        rw [h1] at this
        omega
      rw [List.getElem?_append_right (by rw [hl]; omega), hl, ih _ _ _ (by omega), h1, h2, if_pos (by decide), Int.add_assoc]

theorem bitB_nat (y k : Nat) : bitB (y : Int) (k : Int) = decide (y / 2 ^ k % 2 = 1) := by
  unfold bitB
  rw [Int.toNat_natCast]
  congr 1
  have : (y : Int) / 2 ^ k % 2 = ((y / 2 ^ k % 2 : Nat) : Int) := by push_cast; rfl
  rw [this]
  exact propext ⟨fun h => by exact_mod_cast h, fun h => by exact_mod_cast h⟩

end Go.Proofs.Ytoeoehbpahodnaa
