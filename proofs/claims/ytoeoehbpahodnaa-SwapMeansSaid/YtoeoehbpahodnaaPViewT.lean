/-
  perm.Right, Inverse; the document's Right, Same, Step over rows of ints.
-/
import Derived.Test.YtoeoehbpahodnaaPViewA
import Derived.Lib.SliceRun
import Derived.BigRegion
namespace Go.Proofs.Ytoeoehbpahodnaa
set_option linter.unusedSimpArgs false
set_option linter.unusedVariables false
set_option maxHeartbeats 600000
open Go.RowKit

theorem wrap_pow {x : Int} (h : x < 62) : wrap64 (2 ^ x.toNat) = 2 ^ x.toNat := by
  have h2 : 2 ^ x.toNat ≤ 2 ^ 61 := Nat.pow_le_pow_right (by decide) (by omega)
  have h1 : (2 : Int) ^ x.toNat = ((2 ^ x.toNat : Nat) : Int) := by push_cast; rfl
  have h0 : (0 : Int) < 2 ^ x.toNat := Int.pow_pos (by decide)
  unfold wrap64
  omega

def permB (ps : List Int) : Bool := decide (ps.length ≤ 16) && ps.all (fun x => decide (0 ≤ x ∧ x < (ps.length : Int))) && decide ps.Nodup

theorem permB_iff {ps : List Int} : permB ps = true ↔ (ps.length ≤ 16 ∧ (∀ x ∈ ps, 0 ≤ x ∧ x < (ps.length : Int)) ∧ ps.Nodup) := by
  unfold permB
  simp [List.all_eq_true, and_assoc]

theorem take_snoc {α : Type} {l : List α} {i : Nat} {x : α} (h : l[i]? = some x) : l.take (i + 1) = l.take i ++ [x] := by
  obtain ⟨hi, rfl⟩ := List.getElem?_eq_some_iff.1 h
  rw [List.take_succ_eq_append_getElem hi]

set_option maxRecDepth 100000 in
theorem permRight_calls (a : Option Addr) (cap : Nat) (ps : List Int) (w : World) (h : IntsAt w a ps) (hl : ps.length ≤ 1048576) :
    Calls Try.prog 65 #[.slice a ps.length cap] w fun e w' => e = .returned (.bool (permB ps)) ∧ w = w' := by
  obtain ⟨N, hN⟩ : ∃ N, N = ps.length := ⟨_, rfl⟩
  rw [← hN] at hl ⊢
  have H := Lib.hid h
  have HN := Lib.hid hN
  clear h hN
  by_cases h16 : 16 < N
  · have hf : permB ps = false := by
      cases hb : permB ps with
      | false => rfl
      | true => have := (permB_iff.1 hb).1; have := HN.out; omega
    rw [hf]
    clear hf
    go_enter Try.func65, Try.ntmps65
    go_wp2
    go_ret
    exact ⟨rfl, rfl⟩
  · go_enter Try.func65, Try.ntmps65
    go_wp2
    go_loopg [3, 5, 11] N (fun gk s3 s5 s11 wr => ∃ (m d : Nat), s3 = .int .i64 (m : Int) ∧ s11 = .int .i64 (d : Int) ∧ d + gk = N ∧ MaskOf m (ps.take d) ∧ (∀ x ∈ ps.take d, 0 ≤ x ∧ x < (N : Int)) ∧ (ps.take d).Nodup ∧ w = wr)
    case atStart => exact ⟨0, 0, rfl, rfl, by omega, by simpa using MaskOf.nil, by simp, by simp, rfl⟩
    case round =>
      obtain ⟨m, d, rfl, rfl, hd, hm, hr, hnd, rfl⟩ := hrel
      by_cases hlt : d < N
      · obtain ⟨x, hx⟩ : ∃ b, ps[d]? = some b := ⟨_, List.getElem?_eq_getElem (by rw [← HN.out]; exact hlt)⟩
        obtain ⟨b, off, rfl, hc⟩ := H.out d x hx
        have hmem : x ∈ ps := List.mem_of_getElem? hx
        have HX := Lib.hid hx
        clear hx
        by_cases hx0 : x < 0
        · have hf : permB ps = false := by
            cases hb : permB ps with
            | false => rfl
            | true => have := ((permB_iff.1 hb).2.1 x hmem).1; omega
          have HFF := Lib.hid hf
          clear hf hmem hm hr hnd
          go_wp2_with fail
          go_ret
          exact ⟨by rw [HFF.out]; rfl, rfl⟩
        · by_cases hx1 : (N : Int) ≤ x
          · have hf : permB ps = false := by
              cases hb : permB ps with
              | false => rfl
              | true => have := ((permB_iff.1 hb).2.1 x hmem).2; have := HN.out; omega
            have HFF := Lib.hid hf
            clear hf hmem hm hr hnd
            go_wp2_with fail
            go_ret
            exact ⟨by rw [HFF.out]; rfl, rfl⟩
          · have hbit := hm.bit (x := x) (by omega)
            by_cases hin : x ∈ ps.take d
            · have hf : permB ps = false := by
                cases hb : permB ps with
                | false => rfl
                | true =>
                  have := (permB_iff.1 hb).2.2
                  rw [← List.take_append_drop d ps, List.nodup_append] at this
                  refine absurd rfl (this.2.2 x hin x ?_)
                  rw [List.drop_eq_getElem_cons (by rw [← HN.out]; exact hlt)]
                  have := HX.out
                  rw [List.getElem?_eq_getElem (by rw [← HN.out]; exact hlt)] at this
                  rw [Option.some.inj this]
                  simp
              have HFF := Lib.hid hf
              rw [decide_eq_true hin] at hbit
              clear hf hmem hm hr hnd hin
              have hx2 : x ≤ 63 := by omega
              go_wp2_with fail
              go_ret
              exact ⟨by rw [HFF.out]; rfl, rfl⟩
            · rw [decide_eq_false hin] at hbit
              have hm2 := hm.add (x := x) (by omega) (by omega)
              have hor := or_i64 m (2 ^ x.toNat) (by have := hm.1; omega) (Nat.lt_of_lt_of_le (Nat.pow_lt_pow_right (n := 16) (by decide) (by omega)) (by decide))
              have htk := take_snoc HX.out
              rw [← htk] at hm2
              have hr2 : ∀ y ∈ ps.take (d + 1), 0 ≤ y ∧ y < (N : Int) := fun y hy => by
                rw [htk] at hy
                rcases List.mem_append.1 hy with hy | hy
                · exact hr y hy
                · rw [List.mem_singleton] at hy; subst hy; omega
              have hnd2 : (ps.take (d + 1)).Nodup := by
                rw [htk, List.nodup_append]
                exact ⟨hnd, by simp, fun y hy z hz e => by rw [List.mem_singleton] at hz; subst e; subst hz; exact hin hy⟩
              have HM2 := Lib.hid hm2
              have HR2 := Lib.hid hr2
              have HND2 := Lib.hid hnd2
              push_cast at hor
              have hwp := wrap_pow (x := x) (by omega)
              clear hm hr hnd hm2 hr2 hnd2 hmem hin htk
              have hx2 : x ≤ 63 := by omega
              go_wp2_with fail
              go_roundg (gk - 1)
              case rel => exact ⟨m ||| 2 ^ x.toNat, d + 1, rfl, by simp, by omega, HM2.out, HR2.out, HND2.out, rfl⟩
              case measure => omega
      · have hd2 : d = N := by omega
        have ht : permB ps = true := by
          have e1 : ps.take d = ps := List.take_of_length_le (by rw [← HN.out]; omega)
          rw [e1] at hr hnd
          exact permB_iff.2 ⟨by have := HN.out; omega, fun x hx => by have := hr x hx; have := HN.out; omega, hnd⟩
        have HFF := Lib.hid ht
        clear hm hr hnd ht
        go_wp2_with fail
        go_ret
        exact ⟨by rw [HFF.out]; rfl, rfl⟩

end Go.Proofs.Ytoeoehbpahodnaa

namespace Go.Proofs.Ytoeoehbpahodnaa
set_option linter.unusedSimpArgs false
set_option linter.unusedVariables false
set_option maxHeartbeats 600000
open Go.RowKit

def RowI (w : World) (g : Nat) (ps : List Int) : Prop := ∃ cur : Array Value, w.heap[g]? = some (.cells cur 3 (0, 0)) ∧ ∀ (i : Nat) (x : Int), ps[i]? = some x → cur[i]? = some (Value.int .i64 x)

theorem RowI.cell {w : World} {g : Nat} {ps : List Int} (h : RowI w g ps) {i : Nat} {x : Int} (hx : ps[i]? = some x) : w.cell? ⟨g, i, none⟩ = some (.int .i64 x) := by
  obtain ⟨cur, h1, h2⟩ := h
  rw [cell_of_row w g i _ _ _ h1]
  simp only [h2 i x hx]

theorem RowI.frozen {w : World} {g : Nat} {ps : List Int} (h : RowI w g ps) (i : Nat) : w.frozen? ⟨g, i, none⟩ = false := by
  obtain ⟨cur, h1, h2⟩ := h
  exact frozen_of_row w g i _ _ h1

theorem RowI.lt {w : World} {g : Nat} {ps : List Int} (h : RowI w g ps) : g < w.heap.size := by
  obtain ⟨cur, h1, h2⟩ := h
  exact lt_of_heap h1

theorem RowI.keep {G : Nat → Prop} {w w' : World} {g : Nat} {ps : List Int} (h : RowI w g ps) (hu : Upd G w w') (hg : ¬ G g) : RowI w' g ps := by
  have hl := h.lt
  obtain ⟨cur, h1, h2⟩ := h
  exact ⟨cur, (hu.block g hl hg).trans h1, h2⟩

theorem RowI.keeps {w w' : World} {g : Nat} {ps : List Int} (h : RowI w g ps) (hk : Keeps w w') : RowI w' g ps := h.keep (hk.upd (fun _ => False)) (fun h => h)

theorem RowI.ints {w : World} {g : Nat} {ps : List Int} (h : RowI w g ps) : IntsAt w (some ⟨g, 0, none⟩) ps := fun i x hx => ⟨g, 0, rfl, by rw [Nat.zero_add]; exact h.cell hx⟩

theorem RowI.set {w : World} {g : Nat} {ps : List Int} (h : RowI w g ps) (i : Nat) (y : Int) (hi : i < ps.length) : RowI (w.setCell ⟨g, i, none⟩ (.int .i64 y)) g (ps.set i y) := by
  obtain ⟨cur, h1, h2⟩ := h
  refine ⟨_, Go.heap_setCell_same w g i _ _ (.int .i64 y) h1, fun j x hx => ?_⟩
  rw [Array.getElem?_setIfInBounds]
  by_cases hj : i = j
  · subst hj
    have hc := h2 i ps[i] (by simp [hi])
    have hs : i < cur.size := (Array.getElem?_eq_some_iff.1 hc).1
    rw [if_pos rfl, if_pos hs]
    simp [hi] at hx
    rw [hx]
  · rw [if_neg hj]
    rw [List.getElem?_set_ne hj] at hx
    exact h2 j x hx

theorem rowI_owns {w : World} {lo : Nat} {g : Nat} {n cap : Nat} {ps : List Int} (hown : w.ownsRow lo 3 1 (.slice (some ⟨g, 0, none⟩) n cap) n (ps.map (Value.int .i64))) : RowI w g ps ∧ lo ≤ g := by
  obtain ⟨cur0, hcur0⟩ := owns_type hown (k := g) rfl
  rcases hown.2 with ⟨h0, _⟩ | ⟨g', cap', cur, hv, hb, hg, _, _, hs, ht⟩
  · cases h0
  · cases hv
    refine ⟨⟨cur, hg, fun i x hx => ?_⟩, hb⟩
    have h1 : (ps.map (Value.int .i64))[i]? = some (.int .i64 x) := by rw [List.getElem?_map, hx]; rfl
    rw [← ht, List.getElem?_take] at h1
    split at h1
    · rw [Array.getElem?_toList] at h1
      exact h1
    · cases h1

def RowV (lo : Nat) (w : World) (a : Option Addr) (ps : List Int) : Prop := ps ≠ [] → ∃ g, a = some ⟨g, 0, none⟩ ∧ lo ≤ g ∧ RowI w g ps

theorem RowV.ints {lo : Nat} {w : World} {a : Option Addr} {ps : List Int} (h : RowV lo w a ps) : IntsAt w a ps := fun i x hx => by
  obtain ⟨g, ha, _, hr⟩ := h (fun e => by rw [e] at hx; simp at hx)
  rw [ha]
  exact hr.ints i x hx

theorem RowV.keeps {lo : Nat} {w w' : World} {a : Option Addr} {ps : List Int} (h : RowV lo w a ps) (hk : Keeps w w') : RowV lo w' a ps := fun hn => by
  obtain ⟨g, ha, hl, hr⟩ := h hn
  exact ⟨g, ha, hl, hr.keeps hk⟩

theorem info_int : (Try.prog.info? 3).map (fun i => (i.zero, i.size, i.bytes)) = some (some (.int .i64 0), 1, 8) := by kernel_rfl

theorem owns_none (w : World) (t : TypeId) : (w.alloc (.cells #[] t)).ownsRow w.heap.size t 1 (.slice (some ⟨w.heap.size, 0, none⟩) 0 0) 0 [] :=
  ⟨rfl, .inr ⟨w.heap.size, 0, #[], rfl, Nat.le_refl _, heap_alloc_new w _, Nat.le_refl _, by unfold maxLen; omega, rfl, rfl⟩⟩

set_option maxRecDepth 100000 in
theorem clone_calls (a : Option Addr) (cap : Nat) (ps : List Int) (w : World) (h : IntsAt w a ps) (hl : ps.length ≤ 1048576) :
    Calls Try.prog 34 #[.slice a ps.length cap] w fun e w' => ∃ a' cap', e = .returned (.slice a' ps.length cap') ∧ RowV w.heap.size w' a' ps ∧ Keeps w w' := by
  cases a with
  | none =>
    have hp : ps = [] := by
      cases ps with
      | nil => rfl
      | cons x l => obtain ⟨b, off, ha, _⟩ := h 0 x rfl; cases ha
    subst hp
    clear h hl
    rw [List.length_nil]
    have hnil := fun (W : World) => Lib.run_eql_slice_nil (P := Try.prog) W 23 3 none 0 cap 0 0 Try.underlying23
    go_enter Try.func34, Try.ntmps34
    go_wp2
    go_ret
    exact ⟨none, 0, rfl, fun hn => absurd rfl hn, Keeps.refl _⟩
  | some ad =>
    obtain ⟨i0, hi, hz0, hz1, hz2⟩ := info_parts info_int
    have hcells : ∀ j u, (ps.map (Value.int .i64))[j]? = some u → w.cell? (ad.add j) = some u := fun j u hj => by
      rw [List.getElem?_map, Option.map_eq_some_iff] at hj
      obtain ⟨x, hx, rfl⟩ := hj
      obtain ⟨b, off, ha, hc⟩ := h j x hx
      cases ha
      have hadd : (⟨b, off, none⟩ : Addr).add j = ⟨b, off + j, none⟩ := by
        unfold Addr.add
        split
        · rename_i h0
          rw [h0]
          rfl
        · rfl
      rw [hadd]
      exact hc
    obtain ⟨N, hN⟩ : ∃ N, N = ps.length := ⟨_, rfl⟩
    rw [← hN] at hl ⊢
    have HC := Lib.hid hcells
    have HN := Lib.hid hN
    have h63 : 0 + N ≤ maxLen := by unfold maxLen; omega
    clear h hcells hN
    have hnil := fun (W : World) => Lib.run_eql_slice_nil (P := Try.prog) W 23 3 (some ad) N cap 0 0 Try.underlying23
    go_enter Try.func34, Try.ntmps34
    go_wp2_with (first
      | (at_builtin; refine wpList_append_fresh rfl _ _ 23 rfl w.heap.size 3 i0 (.int .i64 0) 1 8 Try.underlying23 hi hz0 hz1 hz2 rfl (by decide) (.slice (some ⟨w.heap.size, 0, none⟩) 0 0) 0 [] rfl (owns_none w 3) ad N cap (ps.map (Value.int .i64)) rfl (by rw [List.length_map, ← HN.out, Nat.mul_one]) (fun j u hj => ((Keeps.refl w).alloc _).cell (HC.out j u hj)) (fun u hu => by rw [List.mem_map] at hu; obtain ⟨x, _, rfl⟩ := hu; rfl) h63 (by omega) (by simp) ?_; intro v' w3 hown3 hg3 hnew)
      | fail)
    obtain ⟨a', cap', rfl, ha'⟩ := owns_slice hown3
    go_wp2_with fail
    go_ret
    refine ⟨a', cap', by simp, fun hn => ?_, ?_⟩
    · obtain ⟨g, rfl⟩ := ha' (by rw [Nat.zero_add, HN.out]; intro e; exact hn (List.length_eq_zero_iff.1 e))
      rw [List.nil_append] at hown3
      obtain ⟨r1, r2⟩ := rowI_owns hown3
      exact ⟨g, rfl, r2, r1⟩
    · have hu : Upd (fun k => k = w.heap.size) (w.alloc (.cells #[] 3)) w3 := ⟨hg3.os, hg3.tape, hg3.output, hg3.size, fun k hk hn => hg3.block k hk (fun e => by simp [Value.ownBlock] at e; exact hn e)⟩
      exact ((((Keeps.refl w).alloc (.cells #[] 3)).upd _).trans' hu).keeps (fun k hk e => by omega)

end Go.Proofs.Ytoeoehbpahodnaa

namespace Go.Proofs.Ytoeoehbpahodnaa
set_option linter.unusedSimpArgs false
set_option linter.unusedVariables false
set_option maxHeartbeats 600000
open Go.RowKit

set_option maxRecDepth 100000 in
theorem tview_neg (sb : Nat) (l n : Int) (v : Edge) (w : World) (hn : n ≤ 16) (hsb : sb < w.heap.size)
    (hv : ∀ W, Keeps w W → Calls Try.prog 36 #[.pointer (some ⟨sb, 0, none⟩)] W fun e w' => e = .returned (.int .i64 n) ∧ W = w')
    (h0 : l < 0)
    : Calls Try.prog 107 #[.pointer (some ⟨sb, 0, none⟩), .agg #[.int .u8 v.tag, .int .u32 v.to], .int .i64 l] w fun e w' => e = .returned (.tuple #[.agg #[.int .u8 0, .int .u32 0], .agg #[.int .u8 0, .int .u32 0], .int .u8 3]) ∧ Keeps w w' := by
  have HV := Lib.hid hv
  clear hv
  go_enter Try.func107, Try.ntmps107
  go_wp2_with (first | (go_at_call 36; refine (HV.out _ (by (exact kp))).mono ?_; rintro e w' ⟨rfl, rfl⟩) | fail)
  go_region
  all_goals go_wp2
  all_goals refine bodyPost_ret (v := .tuple #[.agg #[.int .u8 0, .int .u32 0], .agg #[.int .u8 0, .int .u32 0], .int .u8 3]) (by simp [results, Try.results107, go_sem]) rfl ⟨rfl, by (exact kp)⟩

set_option maxRecDepth 100000 in
theorem tview_big (sb : Nat) (l n : Int) (v : Edge) (w : World) (hn : n ≤ 16) (hsb : sb < w.heap.size)
    (hv : ∀ W, Keeps w W → Calls Try.prog 36 #[.pointer (some ⟨sb, 0, none⟩)] W fun e w' => e = .returned (.int .i64 n) ∧ W = w')
    (h0 : 0 ≤ l) (h1 : n ≤ l)
    : Calls Try.prog 107 #[.pointer (some ⟨sb, 0, none⟩), .agg #[.int .u8 v.tag, .int .u32 v.to], .int .i64 l] w fun e w' => e = .returned (.tuple #[.agg #[.int .u8 0, .int .u32 0], .agg #[.int .u8 0, .int .u32 0], .int .u8 3]) ∧ Keeps w w' := by
  have HV := Lib.hid hv
  clear hv
  go_enter Try.func107, Try.ntmps107
  go_wp2_with (first | (go_at_call 36; refine (HV.out _ (by (exact kp))).mono ?_; rintro e w' ⟨rfl, rfl⟩) | fail)
  go_region
  all_goals go_wp2
  all_goals refine bodyPost_ret (v := .tuple #[.agg #[.int .u8 0, .int .u32 0], .agg #[.int .u8 0, .int .u32 0], .int .u8 3]) (by simp [results, Try.results107, go_sem]) rfl ⟨rfl, by (exact kp)⟩

set_option maxRecDepth 100000 in
theorem tview_no (sb : Nat) (l n : Int) (v : Edge) (w : World) (hn : n ≤ 16) (hsb : sb < w.heap.size)
    (hv : ∀ W, Keeps w W → Calls Try.prog 36 #[.pointer (some ⟨sb, 0, none⟩)] W fun e w' => e = .returned (.int .i64 n) ∧ W = w')
    (h0 : 0 ≤ l) (h1 : l < n)
    (hl : ∀ W, Keeps w W → Calls Try.prog 60 #[.pointer (some ⟨sb, 0, none⟩), .int .u8 5, .agg #[.int .u8 v.tag, .int .u32 v.to], .int .i64 l] W fun e w' => e = .returned (.bool false) ∧ Keeps W w')
    : Calls Try.prog 107 #[.pointer (some ⟨sb, 0, none⟩), .agg #[.int .u8 v.tag, .int .u32 v.to], .int .i64 l] w fun e w' => e = .returned (.tuple #[.agg #[.int .u8 0, .int .u32 0], .agg #[.int .u8 0, .int .u32 0], .int .u8 1]) ∧ Keeps w w' := by
  have HV := Lib.hid hv
  clear hv
  have HL := Lib.hid hl
  clear hl
  go_enter Try.func107, Try.ntmps107
  go_wp2_with (first | (go_at_call 36; refine (HV.out _ (by (exact kp))).mono ?_; rintro e w' ⟨rfl, rfl⟩) | fail)
  (go_at_call 60; refine (HL.out _ (by (exact kp))).mono ?_; rintro e w1 ⟨rfl, hb⟩; have hsz := hb.size; simp only [World.size_alloc] at hsz; have hz0 : w.heap.size < w1.heap.size := (by omega); have hz1 : w.heap.size + 1 < w1.heap.size := (by omega); have hz2 : w.heap.size + 2 < w1.heap.size := (by omega); have y0 := hb.cell (a := ⟨w.heap.size, 0, none⟩) (v := .int .u8 v.tag) (by simp [go_sem]); have y1 := hb.cell (a := ⟨w.heap.size, 1, none⟩) (v := .int .u32 v.to) (by simp [go_sem]); have x0 := hb.cell (a := ⟨w.heap.size + 1, 0, none⟩) (v := .int .u8 0) (by simp [go_sem]); have x1 := hb.cell (a := ⟨w.heap.size + 1, 1, none⟩) (v := .int .u32 0) (by simp [go_sem]); have z0 := hb.cell (a := ⟨w.heap.size + 2, 0, none⟩) (v := .int .u8 0) (by simp [go_sem]); have z1 := hb.cell (a := ⟨w.heap.size + 2, 1, none⟩) (v := .int .u32 0) (by simp [go_sem]); have xf := fun o : Nat => hb.frz (a := ⟨w.heap.size + 1, o, none⟩) (by simp [go_sem]) (by simp [go_sem]); have zf := fun o : Nat => hb.frz (a := ⟨w.heap.size + 2, o, none⟩) (by simp [go_sem]) (by simp [go_sem]); have hk : Keeps w w1 := (by (exact kp)))
  go_wp2_with fail
  go_region
  all_goals go_wp2
  all_goals refine bodyPost_ret (v := .tuple #[.agg #[.int .u8 0, .int .u32 0], .agg #[.int .u8 0, .int .u32 0], .int .u8 1]) (by simp [results, Try.results107, go_sem, hz1, hz2, x0, x1, z0, z1]) rfl ⟨rfl, by (exact kp)⟩

set_option maxRecDepth 100000 in
theorem tview_zero (sb : Nat) (l n : Int) (t : Int) (w : World) (hn : n ≤ 16) (hsb : sb < w.heap.size)
    (hv : ∀ W, Keeps w W → Calls Try.prog 36 #[.pointer (some ⟨sb, 0, none⟩)] W fun e w' => e = .returned (.int .i64 n) ∧ W = w')
    (h0 : 0 ≤ l) (h1 : l < n)
    (hl : ∀ W, Keeps w W → Calls Try.prog 60 #[.pointer (some ⟨sb, 0, none⟩), .int .u8 5, .agg #[.int .u8 t, .int .u32 0], .int .i64 l] W fun e w' => e = .returned (.bool true) ∧ Keeps W w')
    : Calls Try.prog 107 #[.pointer (some ⟨sb, 0, none⟩), .agg #[.int .u8 t, .int .u32 0], .int .i64 l] w fun e w' => e = .returned (.tuple #[.agg #[.int .u8 t, .int .u32 0], .agg #[.int .u8 t, .int .u32 0], .int .u8 0]) ∧ Keeps w w' := by
  have HV := Lib.hid hv
  clear hv
  have HL := Lib.hid hl
  clear hl
  go_enter Try.func107, Try.ntmps107
  go_wp2_with (first | (go_at_call 36; refine (HV.out _ (by (exact kp))).mono ?_; rintro e w' ⟨rfl, rfl⟩) | fail)
  (go_at_call 60; refine (HL.out _ (by (exact kp))).mono ?_; rintro e w1 ⟨rfl, hb⟩; have hsz := hb.size; simp only [World.size_alloc] at hsz; have hz0 : w.heap.size < w1.heap.size := (by omega); have hz1 : w.heap.size + 1 < w1.heap.size := (by omega); have hz2 : w.heap.size + 2 < w1.heap.size := (by omega); have y0 := hb.cell (a := ⟨w.heap.size, 0, none⟩) (v := .int .u8 t) (by simp [go_sem]); have y1 := hb.cell (a := ⟨w.heap.size, 1, none⟩) (v := .int .u32 0) (by simp [go_sem]); have x0 := hb.cell (a := ⟨w.heap.size + 1, 0, none⟩) (v := .int .u8 0) (by simp [go_sem]); have x1 := hb.cell (a := ⟨w.heap.size + 1, 1, none⟩) (v := .int .u32 0) (by simp [go_sem]); have z0 := hb.cell (a := ⟨w.heap.size + 2, 0, none⟩) (v := .int .u8 0) (by simp [go_sem]); have z1 := hb.cell (a := ⟨w.heap.size + 2, 1, none⟩) (v := .int .u32 0) (by simp [go_sem]); have xf := fun o : Nat => hb.frz (a := ⟨w.heap.size + 1, o, none⟩) (by simp [go_sem]) (by simp [go_sem]); have zf := fun o : Nat => hb.frz (a := ⟨w.heap.size + 2, o, none⟩) (by simp [go_sem]) (by simp [go_sem]); have hk : Keeps w w1 := (by (exact kp)))
  go_wp2_with fail
  go_region
  all_goals go_wp2
  all_goals refine bodyPost_ret (v := .tuple #[.agg #[.int .u8 t, .int .u32 0], .agg #[.int .u8 t, .int .u32 0], .int .u8 0]) (by simp [results, Try.results107, go_sem, hz1, hz2, x0, x1, z0, z1]) rfl ⟨rfl, by (exact kp)⟩

set_option maxRecDepth 100000 in
theorem tview_tag (sb : Nat) (l n : Int) (v : Edge) (w : World) (hn : n ≤ 16) (hsb : sb < w.heap.size)
    (hv : ∀ W, Keeps w W → Calls Try.prog 36 #[.pointer (some ⟨sb, 0, none⟩)] W fun e w' => e = .returned (.int .i64 n) ∧ W = w')
    (h0 : 0 ≤ l) (h1 : l < n)
    (hl : ∀ W, Keeps w W → Calls Try.prog 60 #[.pointer (some ⟨sb, 0, none⟩), .int .u8 5, .agg #[.int .u8 v.tag, .int .u32 v.to], .int .i64 l] W fun e w' => e = .returned (.bool true) ∧ Keeps W w')
    (ht1 : 0 ≤ v.tag) (ht2 : v.tag ≤ 255) (hc : ¬ v.to = 0) (ht : l < v.tag)
    : Calls Try.prog 107 #[.pointer (some ⟨sb, 0, none⟩), .agg #[.int .u8 v.tag, .int .u32 v.to], .int .i64 l] w fun e w' => e = .returned (.tuple #[.agg #[.int .u8 v.tag, .int .u32 v.to], .agg #[.int .u8 v.tag, .int .u32 v.to], .int .u8 0]) ∧ Keeps w w' := by
  have HV := Lib.hid hv
  clear hv
  have HL := Lib.hid hl
  clear hl
  go_enter Try.func107, Try.ntmps107
  go_wp2_with (first | (go_at_call 36; refine (HV.out _ (by (exact kp))).mono ?_; rintro e w' ⟨rfl, rfl⟩) | fail)
  (go_at_call 60; refine (HL.out _ (by (exact kp))).mono ?_; rintro e w1 ⟨rfl, hb⟩; have hsz := hb.size; simp only [World.size_alloc] at hsz; have hz0 : w.heap.size < w1.heap.size := (by omega); have hz1 : w.heap.size + 1 < w1.heap.size := (by omega); have hz2 : w.heap.size + 2 < w1.heap.size := (by omega); have y0 := hb.cell (a := ⟨w.heap.size, 0, none⟩) (v := .int .u8 v.tag) (by simp [go_sem]); have y1 := hb.cell (a := ⟨w.heap.size, 1, none⟩) (v := .int .u32 v.to) (by simp [go_sem]); have x0 := hb.cell (a := ⟨w.heap.size + 1, 0, none⟩) (v := .int .u8 0) (by simp [go_sem]); have x1 := hb.cell (a := ⟨w.heap.size + 1, 1, none⟩) (v := .int .u32 0) (by simp [go_sem]); have z0 := hb.cell (a := ⟨w.heap.size + 2, 0, none⟩) (v := .int .u8 0) (by simp [go_sem]); have z1 := hb.cell (a := ⟨w.heap.size + 2, 1, none⟩) (v := .int .u32 0) (by simp [go_sem]); have xf := fun o : Nat => hb.frz (a := ⟨w.heap.size + 1, o, none⟩) (by simp [go_sem]) (by simp [go_sem]); have zf := fun o : Nat => hb.frz (a := ⟨w.heap.size + 2, o, none⟩) (by simp [go_sem]) (by simp [go_sem]); have hk : Keeps w w1 := (by (exact kp)))
  go_wp2_with fail
  go_region
  all_goals go_wp2
  all_goals refine bodyPost_ret (v := .tuple #[.agg #[.int .u8 v.tag, .int .u32 v.to], .agg #[.int .u8 v.tag, .int .u32 v.to], .int .u8 0]) (by simp [results, Try.results107, go_sem, hz1, hz2, x0, x1, z0, z1]) rfl ⟨rfl, by (exact kp)⟩

set_option maxRecDepth 100000 in
theorem tview_none (sb : Nat) (l n : Int) (v : Edge) (x : Rec) (w : World) (hn : n ≤ 16) (hsb : sb < w.heap.size)
    (hv : ∀ W, Keeps w W → Calls Try.prog 36 #[.pointer (some ⟨sb, 0, none⟩)] W fun e w' => e = .returned (.int .i64 n) ∧ W = w')
    (h0 : 0 ≤ l) (h1 : l < n)
    (hl : ∀ W, Keeps w W → Calls Try.prog 60 #[.pointer (some ⟨sb, 0, none⟩), .int .u8 5, .agg #[.int .u8 v.tag, .int .u32 v.to], .int .i64 l] W fun e w' => e = .returned (.bool true) ∧ Keeps W w')
    (ht1 : 0 ≤ v.tag) (ht2 : v.tag ≤ 255) (hc : ¬ v.to = 0) (ht : v.tag ≤ l)
    (hg : ∀ W, Keeps w W → Calls Try.prog 28 #[.pointer (some ⟨sb, 0, none⟩), .int .u32 v.to] W fun e w' => e = .returned (.tuple #[.agg #[.int .u8 x.form, .int .u8 x.top, .int .u8 x.bot, .int .u8 x.lo.tag, .int .u32 x.lo.to, .int .u8 x.hi.tag, .int .u32 x.hi.to], .bool false]) ∧ Keeps W w')
    : Calls Try.prog 107 #[.pointer (some ⟨sb, 0, none⟩), .agg #[.int .u8 v.tag, .int .u32 v.to], .int .i64 l] w fun e w' => e = .returned (.tuple #[.agg #[.int .u8 (l + 1), .int .u32 v.to], .agg #[.int .u8 0, .int .u32 0], .int .u8 0]) ∧ Keeps w w' := by
  have HV := Lib.hid hv
  clear hv
  have HL := Lib.hid hl
  clear hl
  have HG := Lib.hid hg
  clear hg
  go_enter Try.func107, Try.ntmps107
  go_wp2_with (first | (go_at_call 36; refine (HV.out _ (by (exact kp))).mono ?_; rintro e w' ⟨rfl, rfl⟩) | fail)
  (go_at_call 60; refine (HL.out _ (by (exact kp))).mono ?_; rintro e w1 ⟨rfl, hb⟩; have hsz := hb.size; simp only [World.size_alloc] at hsz; have hz0 : w.heap.size < w1.heap.size := (by omega); have hz1 : w.heap.size + 1 < w1.heap.size := (by omega); have hz2 : w.heap.size + 2 < w1.heap.size := (by omega); have y0 := hb.cell (a := ⟨w.heap.size, 0, none⟩) (v := .int .u8 v.tag) (by simp [go_sem]); have y1 := hb.cell (a := ⟨w.heap.size, 1, none⟩) (v := .int .u32 v.to) (by simp [go_sem]); have x0 := hb.cell (a := ⟨w.heap.size + 1, 0, none⟩) (v := .int .u8 0) (by simp [go_sem]); have x1 := hb.cell (a := ⟨w.heap.size + 1, 1, none⟩) (v := .int .u32 0) (by simp [go_sem]); have z0 := hb.cell (a := ⟨w.heap.size + 2, 0, none⟩) (v := .int .u8 0) (by simp [go_sem]); have z1 := hb.cell (a := ⟨w.heap.size + 2, 1, none⟩) (v := .int .u32 0) (by simp [go_sem]); have xf := fun o : Nat => hb.frz (a := ⟨w.heap.size + 1, o, none⟩) (by simp [go_sem]) (by simp [go_sem]); have zf := fun o : Nat => hb.frz (a := ⟨w.heap.size + 2, o, none⟩) (by simp [go_sem]) (by simp [go_sem]); have hk : Keeps w w1 := (by (exact kp)))
  go_wp2_with fail
  · exfalso; simp_all; omega
  (go_at_call 28; refine (HG.out _ (by (exact kp))).mono ?_; rintro e w2 ⟨rfl, hb2⟩; have hs2 := hb2.size; have xf := fun o : Nat => hb2.frz (a := ⟨w.heap.size + 1, o, none⟩) (by dsimp only; omega) (xf o); have zf := fun o : Nat => hb2.frz (a := ⟨w.heap.size + 2, o, none⟩) (by dsimp only; omega) (zf o); have y0 := hb2.cell y0; have y1 := hb2.cell y1; have x0 := hb2.cell x0; have x1 := hb2.cell x1; have z0 := hb2.cell z0; have z1 := hb2.cell z1; have hz0 : w.heap.size < w2.heap.size := (by omega); have hz1 : w.heap.size + 1 < w2.heap.size := (by omega); have hz2 : w.heap.size + 2 < w2.heap.size := (by omega); have hk2 : Keeps w w2 := hk.trans hb2)
  go_wp2_with fail
  all_goals refine bodyPost_ret (v := .tuple #[.agg #[.int .u8 (l + 1), .int .u32 v.to], .agg #[.int .u8 0, .int .u32 0], .int .u8 0]) (by simp [results, Try.results107, go_sem, hz1, hz2, x0, x1, z0, z1]) rfl ⟨rfl, by (exact kp)⟩

set_option maxRecDepth 100000 in
theorem tview_up (sb : Nat) (l n : Int) (v : Edge) (x : Rec) (w : World) (hn : n ≤ 16) (hsb : sb < w.heap.size)
    (hv : ∀ W, Keeps w W → Calls Try.prog 36 #[.pointer (some ⟨sb, 0, none⟩)] W fun e w' => e = .returned (.int .i64 n) ∧ W = w')
    (h0 : 0 ≤ l) (h1 : l < n)
    (hl : ∀ W, Keeps w W → Calls Try.prog 60 #[.pointer (some ⟨sb, 0, none⟩), .int .u8 5, .agg #[.int .u8 v.tag, .int .u32 v.to], .int .i64 l] W fun e w' => e = .returned (.bool true) ∧ Keeps W w')
    (ht1 : 0 ≤ v.tag) (ht2 : v.tag ≤ 255) (hc : ¬ v.to = 0) (ht : v.tag ≤ l)
    (hx : l < x.top) (hx1 : 0 ≤ x.top) (hx2 : x.top ≤ 255) (hx3 : 0 ≤ x.bot) (hx4 : x.bot ≤ 255)
    (hg : ∀ W, Keeps w W → Calls Try.prog 28 #[.pointer (some ⟨sb, 0, none⟩), .int .u32 v.to] W fun e w' => e = .returned (.tuple #[.agg #[.int .u8 x.form, .int .u8 x.top, .int .u8 x.bot, .int .u8 x.lo.tag, .int .u32 x.lo.to, .int .u8 x.hi.tag, .int .u32 x.hi.to], .bool true]) ∧ Keeps W w')
    : Calls Try.prog 107 #[.pointer (some ⟨sb, 0, none⟩), .agg #[.int .u8 v.tag, .int .u32 v.to], .int .i64 l] w fun e w' => e = .returned (.tuple #[.agg #[.int .u8 (l + 1), .int .u32 v.to], .agg #[.int .u8 0, .int .u32 0], .int .u8 0]) ∧ Keeps w w' := by
  have HV := Lib.hid hv
  clear hv
  have HL := Lib.hid hl
  clear hl
  have HG := Lib.hid hg
  clear hg
  go_enter Try.func107, Try.ntmps107
  go_wp2_with (first | (go_at_call 36; refine (HV.out _ (by (exact kp))).mono ?_; rintro e w' ⟨rfl, rfl⟩) | fail)
  (go_at_call 60; refine (HL.out _ (by (exact kp))).mono ?_; rintro e w1 ⟨rfl, hb⟩; have hsz := hb.size; simp only [World.size_alloc] at hsz; have hz0 : w.heap.size < w1.heap.size := (by omega); have hz1 : w.heap.size + 1 < w1.heap.size := (by omega); have hz2 : w.heap.size + 2 < w1.heap.size := (by omega); have y0 := hb.cell (a := ⟨w.heap.size, 0, none⟩) (v := .int .u8 v.tag) (by simp [go_sem]); have y1 := hb.cell (a := ⟨w.heap.size, 1, none⟩) (v := .int .u32 v.to) (by simp [go_sem]); have x0 := hb.cell (a := ⟨w.heap.size + 1, 0, none⟩) (v := .int .u8 0) (by simp [go_sem]); have x1 := hb.cell (a := ⟨w.heap.size + 1, 1, none⟩) (v := .int .u32 0) (by simp [go_sem]); have z0 := hb.cell (a := ⟨w.heap.size + 2, 0, none⟩) (v := .int .u8 0) (by simp [go_sem]); have z1 := hb.cell (a := ⟨w.heap.size + 2, 1, none⟩) (v := .int .u32 0) (by simp [go_sem]); have xf := fun o : Nat => hb.frz (a := ⟨w.heap.size + 1, o, none⟩) (by simp [go_sem]) (by simp [go_sem]); have zf := fun o : Nat => hb.frz (a := ⟨w.heap.size + 2, o, none⟩) (by simp [go_sem]) (by simp [go_sem]); have hk : Keeps w w1 := (by (exact kp)))
  go_wp2_with fail
  · exfalso; simp_all; omega
  (go_at_call 28; refine (HG.out _ (by (exact kp))).mono ?_; rintro e w2 ⟨rfl, hb2⟩; have hs2 := hb2.size; have xf := fun o : Nat => hb2.frz (a := ⟨w.heap.size + 1, o, none⟩) (by dsimp only; omega) (xf o); have zf := fun o : Nat => hb2.frz (a := ⟨w.heap.size + 2, o, none⟩) (by dsimp only; omega) (zf o); have y0 := hb2.cell y0; have y1 := hb2.cell y1; have x0 := hb2.cell x0; have x1 := hb2.cell x1; have z0 := hb2.cell z0; have z1 := hb2.cell z1; have hz0 : w.heap.size < w2.heap.size := (by omega); have hz1 : w.heap.size + 1 < w2.heap.size := (by omega); have hz2 : w.heap.size + 2 < w2.heap.size := (by omega); have hk2 : Keeps w w2 := hk.trans hb2)
  go_wp2_with fail
  all_goals refine bodyPost_ret (v := .tuple #[.agg #[.int .u8 (l + 1), .int .u32 v.to], .agg #[.int .u8 0, .int .u32 0], .int .u8 0]) (by simp [results, Try.results107, go_sem, hz1, hz2, x0, x1, z0, z1]) rfl ⟨rfl, by (exact kp)⟩

set_option maxRecDepth 100000 in
theorem tview_at (sb : Nat) (l n : Int) (v : Edge) (x : Rec) (w : World) (hn : n ≤ 16) (hsb : sb < w.heap.size)
    (hv : ∀ W, Keeps w W → Calls Try.prog 36 #[.pointer (some ⟨sb, 0, none⟩)] W fun e w' => e = .returned (.int .i64 n) ∧ W = w')
    (h0 : 0 ≤ l) (h1 : l < n)
    (hl : ∀ W, Keeps w W → Calls Try.prog 60 #[.pointer (some ⟨sb, 0, none⟩), .int .u8 5, .agg #[.int .u8 v.tag, .int .u32 v.to], .int .i64 l] W fun e w' => e = .returned (.bool true) ∧ Keeps W w')
    (ht1 : 0 ≤ v.tag) (ht2 : v.tag ≤ 255) (hc : ¬ v.to = 0) (ht : v.tag ≤ l)
     (hx1 : 0 ≤ x.top) (hx2 : x.top ≤ 255) (hx3 : 0 ≤ x.bot) (hx4 : x.bot ≤ 255)
    (hg : ∀ W, Keeps w W → Calls Try.prog 28 #[.pointer (some ⟨sb, 0, none⟩), .int .u32 v.to] W fun e w' => e = .returned (.tuple #[.agg #[.int .u8 x.form, .int .u8 l, .int .u8 x.bot, .int .u8 x.lo.tag, .int .u32 x.lo.to, .int .u8 x.hi.tag, .int .u32 x.hi.to], .bool true]) ∧ Keeps W w')
    : Calls Try.prog 107 #[.pointer (some ⟨sb, 0, none⟩), .agg #[.int .u8 v.tag, .int .u32 v.to], .int .i64 l] w fun e w' => e = .returned (.tuple #[.agg #[.int .u8 x.lo.tag, .int .u32 x.lo.to], .agg #[.int .u8 x.hi.tag, .int .u32 x.hi.to], .int .u8 0]) ∧ Keeps w w' := by
  have HV := Lib.hid hv
  clear hv
  have HL := Lib.hid hl
  clear hl
  have HG := Lib.hid hg
  clear hg
  go_enter Try.func107, Try.ntmps107
  go_wp2_with (first | (go_at_call 36; refine (HV.out _ (by (exact kp))).mono ?_; rintro e w' ⟨rfl, rfl⟩) | fail)
  (go_at_call 60; refine (HL.out _ (by (exact kp))).mono ?_; rintro e w1 ⟨rfl, hb⟩; have hsz := hb.size; simp only [World.size_alloc] at hsz; have hz0 : w.heap.size < w1.heap.size := (by omega); have hz1 : w.heap.size + 1 < w1.heap.size := (by omega); have hz2 : w.heap.size + 2 < w1.heap.size := (by omega); have y0 := hb.cell (a := ⟨w.heap.size, 0, none⟩) (v := .int .u8 v.tag) (by simp [go_sem]); have y1 := hb.cell (a := ⟨w.heap.size, 1, none⟩) (v := .int .u32 v.to) (by simp [go_sem]); have x0 := hb.cell (a := ⟨w.heap.size + 1, 0, none⟩) (v := .int .u8 0) (by simp [go_sem]); have x1 := hb.cell (a := ⟨w.heap.size + 1, 1, none⟩) (v := .int .u32 0) (by simp [go_sem]); have z0 := hb.cell (a := ⟨w.heap.size + 2, 0, none⟩) (v := .int .u8 0) (by simp [go_sem]); have z1 := hb.cell (a := ⟨w.heap.size + 2, 1, none⟩) (v := .int .u32 0) (by simp [go_sem]); have xf := fun o : Nat => hb.frz (a := ⟨w.heap.size + 1, o, none⟩) (by simp [go_sem]) (by simp [go_sem]); have zf := fun o : Nat => hb.frz (a := ⟨w.heap.size + 2, o, none⟩) (by simp [go_sem]) (by simp [go_sem]); have hk : Keeps w w1 := (by (exact kp)))
  go_wp2_with fail
  · exfalso; simp_all; omega
  (go_at_call 28; refine (HG.out _ (by (exact kp))).mono ?_; rintro e w2 ⟨rfl, hb2⟩; have hs2 := hb2.size; have xf := fun o : Nat => hb2.frz (a := ⟨w.heap.size + 1, o, none⟩) (by dsimp only; omega) (xf o); have zf := fun o : Nat => hb2.frz (a := ⟨w.heap.size + 2, o, none⟩) (by dsimp only; omega) (zf o); have y0 := hb2.cell y0; have y1 := hb2.cell y1; have x0 := hb2.cell x0; have x1 := hb2.cell x1; have z0 := hb2.cell z0; have z1 := hb2.cell z1; have hz0 : w.heap.size < w2.heap.size := (by omega); have hz1 : w.heap.size + 1 < w2.heap.size := (by omega); have hz2 : w.heap.size + 2 < w2.heap.size := (by omega); have hk2 : Keeps w w2 := hk.trans hb2)
  go_wp2_with fail
  go_region
  all_goals go_wp2
  all_goals refine bodyPost_ret (v := .tuple #[.agg #[.int .u8 x.lo.tag, .int .u32 x.lo.to], .agg #[.int .u8 x.hi.tag, .int .u32 x.hi.to], .int .u8 0]) (by simp [results, Try.results107, go_sem, hz1, hz2, x0, x1, z0, z1]) rfl ⟨rfl, by (exact kp)⟩

end Go.Proofs.Ytoeoehbpahodnaa
