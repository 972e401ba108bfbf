/-
  The map from edges at levels to edges: its keys, its elements, what it holds.
-/
import Derived.Test.YtiacdpoldgfpbaaPKB
import Derived.Test.YtiacdpoldgfpbaaPMeansA
import Derived.Maps.OwnSet
import Derived.Maps.Keyed
import Derived.DeepKeys4
namespace Go.Proofs.Ytiacdpoldgfpbaa
set_option linter.unusedSimpArgs false
set_option linter.unusedVariables false
set_option maxHeartbeats 600000
open Go.RowKit

set_option maxRecDepth 100000 in
theorem laidC : laidOutB Try.prog = true := by kernel_rfl

set_option maxRecDepth 100000 in
theorem rowPlace : (104 : TypeId) < Try.prog.types.size := of_decide_eq_true (by kernel_rfl)

set_option maxRecDepth 100000 in
theorem widePlace : (match Try.prog.underlying 104 with | some (.array _ _) | some (.struct _) => true | _ => false) = true := by rw [Try.underlying104]

set_option maxRecDepth 100000 in
theorem lawPlace : Go.Maps.Keyed Try.prog 104 := Go.Maps.Keyed.of_law (deep_law_laid laidC (m := 3) (by omega) rowPlace (by kernel_rfl) widePlace)

def placeV (e : Edge) (l : Int) : Value := .agg #[.int .u8 e.tag, .int .u32 e.to, .int .i64 l]

noncomputable def placeL (e : Edge) (l : Int) : Lit := .string (keyBytes [.int .u8 e.tag, .int .u32 e.to, .int .i64 l])

set_option maxRecDepth 100000 in
theorem types_two : 2 ≤ Try.prog.types.size := of_decide_eq_true (by kernel_rfl)

theorem types_big : ∃ d, Try.prog.types.size = d + 2 := ⟨Try.prog.types.size - 2, by have := types_two; omega⟩

set_option maxRecDepth 100000 in
theorem keyPlace (e : Edge) (l : Int) (he : e.ok) (h0 : 0 ≤ l) (h1 : l ≤ 16) : keyOf Try.prog 104 (placeV e l) = some (placeL e l) := by
  obtain ⟨d, hd⟩ := types_big
  have hmin : IntKind.u8.min = 0 := rfl
  have hmax : IntKind.u8.max = 255 := rfl
  have hmin2 : IntKind.u32.min = 0 := rfl
  have hmax2 : IntKind.u32.max = 4294967295 := rfl
  have w1 : (Lit.int .u8 e.tag).wf = true := by simp only [Lit.wf, Bool.and_eq_true, decide_eq_true_eq, hmin, hmax]; exact he.1
  have w2 : (Lit.int .u32 e.to).wf = true := by simp only [Lit.wf, Bool.and_eq_true, decide_eq_true_eq, hmin2, hmax2]; exact he.2
  have w3 : (Lit.int .i64 l).wf = true := WalkArith.wf_i64 (by omega)
  have k1 : Try.prog.keyType 104 = true := by kernel_rfl
  have c1 : Try.prog.cellsOf 104 = 3 := by kernel_rfl
  have c2 : Try.prog.cellsOf 24 = 2 := by kernel_rfl
  have c3 : Try.prog.cellsOf 3 = 1 := by kernel_rfl
  have c4 : Try.prog.cellsOf 5 = 1 := by kernel_rfl
  have c5 : Try.prog.cellsOf 22 = 1 := by kernel_rfl
  unfold keyOf placeV placeL
  rw [Try.underlying104]
  simp only [k1, hd]
  simp [Value.formed, Value.cells, Try.underlying104, c1, Program.keyLits, Try.underlying24, Try.underlying3, Try.underlying5, Try.underlying22, c2, c3, c4, c5, w1, w2, w3]
  rw [if_pos (fun i hi => by
    rcases i with _ | _ | i
    · exact of_decide_eq_false rfl
    · exact of_decide_eq_false rfl
    · omega)]
  rfl

theorem placeL_inj {e e' : Edge} {l l' : Int} (he : e.ok) (he' : e'.ok) (h0 : 0 ≤ l) (h1 : l ≤ 16) (h0' : 0 ≤ l') (h1' : l' ≤ 16) (h : placeL e l = placeL e' l') : e = e' ∧ l = l' := by
  have k1 := keyPlace e l he h0 h1
  have k2 := keyPlace e' l' he' h0' h1'
  rw [← h] at k2
  have := lawPlace.inj k1 k2
  unfold placeV at this
  cases e
  cases e'
  simp at this
  obtain ⟨a, b, c⟩ := this
  subst a b c
  exact ⟨rfl, rfl⟩

theorem placeL_key (e : Edge) (l : Int) : WideAt.IsKeyLit (placeL e l) := True.intro

def edgeD (x : Edge) : DataW Unit := .agg [.lit (.int .u8 x.tag), .lit (.int .u32 x.to)]

def edgeElem (v : Value) : Option (DataW Unit × List MemPlace) :=
  match v with
  | .agg a => match a.toList with
    | [.int .u8 t, .int .u32 n] => some (edgeD ⟨t, n⟩, [])
    | _ => none
  | _ => none

theorem edgeElem_mk (x : Edge) : edgeElem (.agg #[.int .u8 x.tag, .int .u32 x.to]) = some (edgeD x, []) := rfl

theorem edgeD_inj {x y : Edge} (h : edgeD x = edgeD y) : x = y := by
  unfold edgeD at h
  cases x
  cases y
  simp at h
  obtain ⟨a, b⟩ := h
  subst a b
  rfl

theorem edgeElem_inv {v : Value} {x : Edge} {ps : List MemPlace} (h : edgeElem v = some (edgeD x, ps)) : v = .agg #[.int .u8 x.tag, .int .u32 x.to] := by
  unfold edgeElem at h
  split at h
  · rename_i a
    split at h
    · rename_i t n ha
      have h1 := edgeD_inj (congrArg Prod.fst (Option.some.inj h))
      subst h1
      show Value.agg a = .agg #[.int .u8 t, .int .u32 n]
      congr 1
      exact Array.toList_inj.1 ha
    · cases h
  · cases h

theorem zeroEdge (w : World) : (zeroValue 24).run Try.prog w = .ok (.agg #[.int .u8 (⟨0, 0⟩ : Edge).tag, .int .u32 (⟨0, 0⟩ : Edge).to]) w := by kernel_rfl

structure MemoOk (f g : Int) (M : St) (V : List (Edge × Int)) (D : DataW Unit) : Prop where
  isMap : Go.Maps.IsMap D
  fit : ∀ p ∈ V, p.1.ok ∧ 0 ≤ p.2 ∧ p.2 ≤ 16 ∧ M.leads f p.1 p.2 = true
  keys : ∀ e l, e.ok → 0 ≤ l → l ≤ 16 → (Go.Maps.has D (placeL e l) = true ↔ (e, l) ∈ V)
  good : ∀ p ∈ V, ∃ x, D.atKey (placeL p.1 p.2) (edgeD ⟨0, 0⟩) = edgeD x ∧ GoodC f g M p.1 p.2 x

theorem MemoOk.empty (f g : Int) (M : St) : MemoOk f g M [] (.map []) := by
  refine ⟨Go.Maps.isMap_empty, fun p h => by simp at h, fun e l _ _ _ => ?_, fun p h => by simp at h⟩
  simp [Go.Maps.has_eq]

theorem MemoOk.ext {f g : Int} {M M' : St} {V : List (Edge × Int)} {D : DataW Unit} (h : MemoOk f g M V D) (hE : Ext M M') (hw : M.wf) (hf : 1 ≤ f ∧ f ≤ 5) (hg : 1 ≤ g ∧ g ≤ 5) : MemoOk f g M' V D :=
  ⟨h.isMap, fun p hp => by obtain ⟨a, b, c, d⟩ := h.fit p hp; exact ⟨a, b, c, hE.leads d⟩, h.keys, fun p hp => by
    obtain ⟨x, a, b⟩ := h.good p hp
    exact ⟨x, a, b.ext hE hw (h.fit p hp).2.2.2 hf hg⟩⟩

theorem MemoOk.put {f g : Int} {M : St} {V : List (Edge × Int)} {D : DataW Unit} (h : MemoOk f g M V D) {e x : Edge} {l : Int} (he : e.ok) (h0 : 0 ≤ l) (h1 : l ≤ 16) (hl : M.leads f e l = true) (hp : (e, l) ∉ V) (hx : GoodC f g M e l x) :
    MemoOk f g M (V ++ [(e, l)]) (D.put (placeL e l) (edgeD x)) := by
  refine ⟨h.isMap.put _ _, fun p hp => ?_, fun e' l' he' h0' h1' => ?_, fun p hp2 => ?_⟩
  · rcases List.mem_append.1 hp with hp | hp
    · exact h.fit p hp
    · rw [List.mem_singleton] at hp
      subst hp
      exact ⟨he, h0, h1, hl⟩
  · by_cases hs : placeL e' l' = placeL e l
    · obtain ⟨rfl, rfl⟩ := placeL_inj he' he h0' h1' h0 h1 hs
      rw [Go.Maps.has_put_same h.isMap (placeL_key _ _)]
      simp
    · rw [Go.Maps.has_put_other hs, h.keys e' l' he' h0' h1', List.mem_append, List.mem_singleton]
      constructor
      · exact .inl
      · rintro (a | a)
        · exact a
        · cases a; exact absurd rfl hs
  · rcases List.mem_append.1 hp2 with hp2 | hp2
    · obtain ⟨a, b, c, d⟩ := h.fit p hp2
      have hs : placeL p.1 p.2 ≠ placeL e l := fun hh => by
        obtain ⟨q1, q2⟩ := placeL_inj a he b c h0 h1 hh
        exact hp (by rw [← q1, ← q2]; exact hp2)
      obtain ⟨y, y1, y2⟩ := h.good p hp2
      exact ⟨y, by rw [Go.Maps.atKey_put_other hs]; exact y1, y2⟩
    · rw [List.mem_singleton] at hp2
      subst hp2
      exact ⟨x, Go.Maps.atKey_put_same h.isMap (placeL_key _ _) _ _, hx⟩

theorem MemoOk.none {f g : Int} {M : St} {V : List (Edge × Int)} {D : DataW Unit} (h : MemoOk f g M V D) {e : Edge} {l : Int} (he : e.ok) (h0 : 0 ≤ l) (h1 : l ≤ 16) (hp : (e, l) ∉ V) : Go.Maps.has D (placeL e l) = false ∧ D.atKey (placeL e l) (edgeD ⟨0, 0⟩) = edgeD ⟨0, 0⟩ := by
  have hh : Go.Maps.has D (placeL e l) = false := by
    cases hb : Go.Maps.has D (placeL e l) with
    | false => rfl
    | true => exact absurd ((h.keys e l he h0 h1).1 hb) hp
  exact ⟨hh, Go.Maps.atKey_of_not_has hh _⟩

structure ConvCtx (F : Nat → Prop) (W : World) (sb wb b : Nat) (f g : Int) (M : St) (V : List (Edge × Int)) (D : DataW Unit) : Prop where
  rep : StoreRep F W sb M
  c0 : W.cell? ⟨wb, 0, none⟩ = some (.pointer (some ⟨sb, 0, none⟩))
  c1 : W.cell? ⟨wb, 1, none⟩ = some (.int .u8 f)
  c2 : W.cell? ⟨wb, 2, none⟩ = some (.int .u8 g)
  c3 : W.cell? ⟨wb, 3, none⟩ = some (.map (some b))
  nF : ¬ F b
  nW : ¬ F wb
  own : W.ownsMap Try.prog 104 edgeElem b V.length D
  memo : MemoOk f g M V D

theorem ConvCtx.block {F : Nat → Prop} {W : World} {sb wb b : Nat} {f g : Int} {M : St} {V : List (Edge × Int)} {D : DataW Unit} (h : ConvCtx F W sb wb b f g M V D) : ∃ es clock, W.heap[b]? = some (.map es clock) := by
  obtain ⟨es, clock, hb, _⟩ := h.own
  exact ⟨es, clock, hb⟩

theorem ConvCtx.neCell {F : Nat → Prop} {W : World} {sb wb b : Nat} {f g : Int} {M : St} {V : List (Edge × Int)} {D : DataW Unit} (h : ConvCtx F W sb wb b f g M V D) {k o : Nat} {v : Value} (hv : W.cell? ⟨k, o, none⟩ = some v) : k ≠ b := by
  obtain ⟨es, clock, hb⟩ := h.block
  intro e
  subst e
  simp [World.cell?, hb] at hv

theorem ConvCtx.lt {F : Nat → Prop} {W : World} {sb wb b : Nat} {f g : Int} {M : St} {V : List (Edge × Int)} {D : DataW Unit} (h : ConvCtx F W sb wb b f g M V D) : b < W.heap.size ∧ wb < W.heap.size := by
  obtain ⟨es, clock, hb⟩ := h.block
  exact ⟨(Array.getElem?_eq_some_iff.1 hb).1, lt_of_cell h.c0⟩

theorem ownsMap_same {W W' : World} {b n : Nat} {D : DataW Unit} (h : W.ownsMap Try.prog 104 edgeElem b n D) (he : W'.heap[b]? = W.heap[b]?) : W'.ownsMap Try.prog 104 edgeElem b n D := by
  obtain ⟨es, clock, hb, r⟩ := h
  exact ⟨es, clock, by rw [he]; exact hb, r⟩

theorem ConvCtx.keeps {F : Nat → Prop} {W W' : World} {sb wb b : Nat} {f g : Int} {M : St} {V : List (Edge × Int)} {D : DataW Unit} (h : ConvCtx F W sb wb b f g M V D) (hk : Keeps W W') : ConvCtx F W' sb wb b f g M V D :=
  ⟨h.rep.keeps hk, hk.cell h.c0, hk.cell h.c1, hk.cell h.c2, hk.cell h.c3, h.nF, h.nW, ownsMap_same h.own (hk.block b h.lt.1), h.memo⟩

theorem ConvCtx.store {F F' : Nat → Prop} {W W' : World} {sb wb b : Nat} {f g : Int} {M M' : St} {V : List (Edge × Int)} {D : DataW Unit} (h : ConvCtx F W sb wb b f g M V D) (hu : Upd F W W') (hr : StoreRep F' W' sb M') (hF : ∀ j, F' j → F j ∨ W.heap.size ≤ j) (hE : Ext M M') (hf : 1 ≤ f ∧ f ≤ 5) (hg : 1 ≤ g ∧ g ≤ 5) : ConvCtx F' W' sb wb b f g M' V D := by
  obtain ⟨l1, l2⟩ := h.lt
  have nb : ¬ F' b := fun hh => by rcases hF _ hh with q | q; exact h.nF q; omega
  have nw : ¬ F' wb := fun hh => by rcases hF _ hh with q | q; exact h.nW q; omega
  exact ⟨hr, hu.cellAt h.nW h.c0, hu.cellAt h.nW h.c1, hu.cellAt h.nW h.c2, hu.cellAt h.nW h.c3, nb, nw, ownsMap_same h.own (hu.block b l1 h.nF), h.memo.ext hE h.rep.wf hf hg⟩

theorem ConvCtx.look {F : Nat → Prop} {W : World} {sb wb b : Nat} {f g : Int} {M : St} {V : List (Edge × Int)} {D : DataW Unit} (h : ConvCtx F W sb wb b f g M V D) {e : Edge} {l : Int} (he : e.ok) (h0 : 0 ≤ l) (h1 : l ≤ 16) :
    ∃ x, D.atKey (placeL e l) (edgeD ⟨0, 0⟩) = edgeD x ∧ ∀ W', W'.heap[b]? = W.heap[b]? → (Instr.lookup 99 (.map (some b)) (placeV e l) true).run Try.prog W' = .ok (.tuple #[.agg #[.int .u8 x.tag, .int .u32 x.to], .bool (Go.Maps.has D (placeL e l))]) W' := by
  have hx : ∃ x, D.atKey (placeL e l) (edgeD ⟨0, 0⟩) = edgeD x := by
    by_cases hp : (e, l) ∈ V
    · obtain ⟨x, a, _⟩ := h.memo.good _ hp
      exact ⟨x, a⟩
    · exact ⟨_, (h.memo.none he h0 h1 hp).2⟩
  obtain ⟨x, hx⟩ := hx
  refine ⟨x, hx, fun W' hW => ?_⟩
  obtain ⟨v, ps, hrun, hv⟩ := (ownsMap_same h.own hW).look_ok lawPlace Try.underlying99 (zeroEdge W') (edgeElem_mk ⟨0, 0⟩) (keyPlace e l he h0 h1)
  rw [hx] at hv
  rw [hrun, edgeElem_inv hv]

end Go.Proofs.Ytiacdpoldgfpbaa
