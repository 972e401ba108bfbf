/-
  The walk of law17.Made, any form (printed by wip/mk_madek.py).
-/
import Derived.Test.YtiacdpoldgfpbaaPMeansA
import Derived.Test.YtiacdpoldgfpbaaPSwapA
import Derived.RangeFuncStops
import Derived.RangeFuncCalls
import Derived.RangeFuncLeaves
namespace Go.Proofs.Ytiacdpoldgfpbaa
set_option linter.unusedSimpArgs false
set_option linter.unusedVariables false
set_option maxHeartbeats 600000
open Go.RowKit

def MadeAt (f : Int) (M : St) (bs : List Bool) (k off : Nat) (l : Int) (e : Edge) : Prop := IsT f M k ((bs.drop off).take (2 ^ k)) l e ∧ rightK M f e l

theorem MadeAt.ext {f : Int} {M M' : St} {bs : List Bool} (hE : Ext M M') (hw : M.wf) (hf : 1 ≤ f ∧ f ≤ 5) {k off : Nat} {l : Int} {e : Edge} (h : MadeAt f M bs k off l e) : MadeAt f M' bs k off l e :=
  ⟨IsT.ext hE hf _ _ _ _ h.1, rightK_ext hE hw h.2⟩

theorem MadeAt.pair {f : Int} {M : St} {bs : List Bool} {k off : Nat} {l : Int} {lo hi e : Edge} (h1 : MadeAt f M bs k off (l + 1) lo) (h2 : MadeAt f M bs k (off + 2 ^ k) (l + 1) hi) (h3 : Pair f M l lo hi e) (hr : rightK M f e l) (hlen : off + 2 ^ (k + 1) ≤ bs.length) : MadeAt f M bs (k + 1) off l e := by
  have e2 : 2 ^ (k + 1) = 2 ^ k + 2 ^ k := by rw [Nat.pow_succ]; omega
  have hp : 0 < 2 ^ k := Nat.pow_pos (by decide)
  refine ⟨⟨by simp only [List.length_take, List.length_drop]; omega, lo, hi, ?_, ?_, h3⟩, hr⟩
  · rw [List.take_take, show min (2 ^ k) (2 ^ (k + 1)) = 2 ^ k by omega]
    exact h1.1
  · rw [List.drop_take, List.drop_drop, show 2 ^ (k + 1) - 2 ^ k = 2 ^ k by omega]
    exact h2.1

theorem kAct_mkK {M : St} {f l : Int} {lo hi : Edge} (hf : 1 ≤ f ∧ f ≤ 5) : kAct M f l lo hi = mkK f M l lo hi := by
  have hff : f = 1 ∨ f = 2 ∨ f = 3 ∨ f = 4 ∨ f = 5 := by omega
  rcases hff with rfl | rfl | rfl | rfl | rfl <;> rfl

theorem mkK_ok {f : Int} {M : St} {l : Int} {lo hi : Edge} (h : M.wf) (hf : M.cs.length ≤ 1048576) (hlo : lo.ok) (hhi : hi.ok) (h0 : 0 ≤ l) (h1 : l ≤ 255) (hff : 1 ≤ f ∧ f ≤ 5) : (mkE f M (mkK f M l lo hi)).ok := by
  have hc : f = 1 ∨ f = 2 ∨ f = 3 ∨ f = 4 ∨ f = 5 := by omega
  rcases hc with rfl | rfl | hc | hc | hc
  · rw [mkK1]
    show (actE0 M _).ok
    unfold makeAct bRest
    repeat' split
    all_goals first | exact edge0_ok | exact hlo | exact foundE_fit h hf 0 (by omega) _
  · rw [mkK2]
    show (actE0 M _).ok
    unfold makeAct zRest
    repeat' split
    all_goals first | exact edge0_ok | exact hlo | exact foundE_fit h hf 0 (by omega) _
  · have e : mkK f M l lo hi = mkA f M l lo hi := by subst hc; rfl
    rw [e]; exact mkE_ok h hf hlo hhi h0 h1 (.inl hc)
  · have e : mkK f M l lo hi = mkA f M l lo hi := by subst hc; rfl
    rw [e]; exact mkE_ok h hf hlo hhi h0 h1 (.inr (.inl hc))
  · have e : mkK f M l lo hi = mkA f M l lo hi := by subst hc; rfl
    rw [e]; exact mkE_ok h hf hlo hhi h0 h1 (.inr (.inr hc))

end Go.Proofs.Ytiacdpoldgfpbaa

namespace Go.Proofs.Ytiacdpoldgfpbaa
set_option linter.unusedSimpArgs false
set_option linter.unusedVariables false
set_option maxHeartbeats 600000
open Go.RowKit

theorem bitB_nat (y k : Nat) : bitB (y : Int) (k : Int) = decide (y / 2 ^ k % 2 = 1) := by
  unfold bitB
  rw [Int.toNat_natCast]
  congr 1
  have : (y : Int) / 2 ^ k % 2 = ((y / 2 ^ k % 2 : Nat) : Int) := by push_cast; rfl
  rw [this]
  exact propext ⟨fun h => by exact_mod_cast h, fun h => by exact_mod_cast h⟩

end Go.Proofs.Ytiacdpoldgfpbaa

namespace Go.Proofs.Ytiacdpoldgfpbaa
set_option linter.unusedSimpArgs false
set_option linter.unusedVariables false
set_option maxHeartbeats 600000
open Go.RowKit

def RowE (w : World) (g : Nat) (es : List Edge) : Prop := ∃ cur : Array Value, w.heap[g]? = some (.cells cur 24 (0, 0)) ∧ ∀ (i : Nat) (e : Edge), es[i]? = some e → cur[i * 2]? = some (Value.int .u8 e.tag) ∧ cur[i * 2 + 1]? = some (Value.int .u32 e.to)

theorem RowE.cell {w : World} {g : Nat} {es : List Edge} (h : RowE w g es) {i : Nat} {e : Edge} (hx : es[i]? = some e) : w.cell? ⟨g, i * 2, none⟩ = some (.int .u8 e.tag) ∧ w.cell? ⟨g, i * 2 + 1, none⟩ = some (.int .u32 e.to) := by
  obtain ⟨cur, h1, h2⟩ := h
  obtain ⟨a, b⟩ := h2 i e hx
  exact ⟨by rw [cell_of_row w g _ _ _ _ h1]; simp only [a], by rw [cell_of_row w g _ _ _ _ h1]; simp only [b]⟩

theorem RowE.frozen {w : World} {g : Nat} {es : List Edge} (h : RowE w g es) (i : Nat) : w.frozen? ⟨g, i, none⟩ = false := by
  obtain ⟨cur, h1, h2⟩ := h
  exact frozen_of_row w g i _ _ h1

theorem RowE.lt {w : World} {g : Nat} {es : List Edge} (h : RowE w g es) : g < w.heap.size := by
  obtain ⟨cur, h1, h2⟩ := h
  exact lt_of_heap h1

theorem RowE.keep {G : Nat → Prop} {w w' : World} {g : Nat} {es : List Edge} (h : RowE w g es) (hu : Upd G w w') (hg : ¬ G g) : RowE w' g es := by
  have hl := h.lt
  obtain ⟨cur, h1, h2⟩ := h
  exact ⟨cur, (hu.block g hl hg).trans h1, h2⟩

theorem RowE.keeps {w w' : World} {g : Nat} {es : List Edge} (h : RowE w g es) (hk : Keeps w w') : RowE w' g es := h.keep (hk.upd (fun _ => False)) (fun h => h)

theorem RowE.at {w : World} {g : Nat} {es : List Edge} (h : RowE w g es) (hok : ∀ e ∈ es, e.ok) : EdgesAt w (some ⟨g, 0, none⟩) es := fun i e he => ⟨hok e (List.mem_of_getElem? he), g, 0, rfl, by rw [Nat.zero_add]; exact (h.cell he).1, by rw [Nat.zero_add]; exact (h.cell he).2⟩

theorem RowE.set {w : World} {g : Nat} {es : List Edge} (h : RowE w g es) (i : Nat) (e : Edge) (hi : i < es.length) : RowE ((w.setCell ⟨g, i * 2, none⟩ (.int .u8 e.tag)).setCell ⟨g, i * 2 + 1, none⟩ (.int .u32 e.to)) g (es.set i e) := by
  obtain ⟨cur, h1, h2⟩ := h
  have h3 := Go.heap_setCell_same w g (i * 2) _ _ (.int .u8 e.tag) h1
  refine ⟨_, Go.heap_setCell_same _ g (i * 2 + 1) _ _ (.int .u32 e.to) h3, fun j x hx => ?_⟩
  obtain ⟨a, b⟩ := h2 i es[i] (by simp [hi])
  have l1 := (Array.getElem?_eq_some_iff.1 a).1
  have l2 := (Array.getElem?_eq_some_iff.1 b).1
  by_cases hj : i = j
  · subst hj
    simp [hi] at hx
    subst hx
    constructor
    · rw [Array.getElem?_setIfInBounds, if_neg (by omega), Array.getElem?_setIfInBounds, if_pos rfl, if_pos l1]
    · rw [Array.getElem?_setIfInBounds, if_pos rfl, if_pos (by simpa using l2)]
  · rw [List.getElem?_set_ne hj] at hx
    obtain ⟨c, d⟩ := h2 j x hx
    constructor
    · rw [Array.getElem?_setIfInBounds, if_neg (by omega), Array.getElem?_setIfInBounds, if_neg (by omega)]
      exact c
    · rw [Array.getElem?_setIfInBounds, if_neg (by omega), Array.getElem?_setIfInBounds, if_neg (by omega)]
      exact d

theorem info_edge : (Try.prog.info? 24).map (fun i => (i.zero, i.size, i.bytes)) = some (some (.agg #[.int .u8 0, .int .u32 0]), 2, 8) := by kernel_rfl

theorem rowE_made {w : World} {blk n : Nat} (h : w.ownsRow blk 24 2 (.slice (some ⟨blk, 0, none⟩) n n) n (madeCells (Value.agg #[.int .u8 0, .int .u32 0]).cells (n * 2)).toList) : RowE w blk (List.replicate n ⟨0, 0⟩) := by
  obtain ⟨cur0, hcur0⟩ := owns_type h (k := blk) rfl
  rcases h.2 with ⟨h0, _⟩ | ⟨g', cap', cur, hv, hb, hg, _, _, hs, ht⟩
  · cases h0
  · cases hv
    have key : ∀ j, j < n * 2 → cur[j]? = some (if j % 2 = 0 then Value.int .u8 0 else Value.int .u32 0) := fun j hj => by
      have h1 : (madeCells (Value.agg #[.int .u8 0, .int .u32 0]).cells (n * 2)).toList[j]? = some (if j % 2 = 0 then Value.int .u8 0 else Value.int .u32 0) := by
        simp [madeCells, Value.cells, hj]
        rcases Nat.mod_two_eq_zero_or_one j with q | q
        · rw [q]; rfl
        · rw [q]; rfl
      rw [← ht, List.getElem?_take, if_pos hj, Array.getElem?_toList] at h1
      exact h1
    refine ⟨cur, hg, fun i e he => ?_⟩
    have hi : i < n := by simpa using (List.getElem?_eq_some_iff.1 he).1
    have hee : e = ⟨0, 0⟩ := by
      rw [List.getElem?_replicate, if_pos hi] at he
      exact (Option.some.inj he).symm
    subst hee
    constructor
    · rw [key _ (by omega), if_pos (by omega)]
    · rw [key _ (by omega), if_neg (by omega)]

end Go.Proofs.Ytiacdpoldgfpbaa

namespace Go.Proofs.Ytiacdpoldgfpbaa
set_option linter.unusedSimpArgs false
set_option linter.unusedVariables false
set_option maxHeartbeats 600000
open Go.RowKit

def Abide (B c : Nat) (J : List Int → World → Prop) : Prop := ∀ p A A', J p A → Upd (fun k => B ≤ k ∧ k < B + c) A A' → J p A'

def Iter (P : Program) (g : Nat) (lb : Array Value) (xs : List Int) (c : Nat) (St : World → Prop) : Prop :=
  ∀ (l : Nat) (J Jx : List Int → World → Prop) (W : World), (∀ p A, J p A → St A) → Abide W.heap.size c J → Abide W.heap.size c Jx →
    (∀ m pre x A, J pre A → pre ++ [x] <+: xs → W.heap.size + c ≤ A.heap.size → YieldAt Fence.wide m P l #[.int .u32 x] A fun e A' =>
      (∀ k, W.heap.size ≤ k → k < W.heap.size + c → A'.heap[k]? = A.heap[k]?) ∧ A.heap.size ≤ A'.heap.size ∧ ((e = .returned (.bool true) ∧ J (pre ++ [x]) A') ∨ (e = .returned (.bool false) ∧ Jx (pre ++ [x]) A'))) →
    J [] W → ∀ n, CallsIn Fence.wide n P g (#[.func (.yield l) #[] #[]] ++ lb) W fun e W' => (∃ v, e = .returned v) ∧ (J xs W' ∨ ∃ pre, pre <+: xs ∧ Jx pre W')

theorem Iter.later {P : Program} {g : Nat} {lb : Array Value} {xs : List Int} {c : Nat} {St St' : World → Prop} (h : Iter P g lb xs c St) (hs : ∀ A, St' A → St A) : Iter P g lb xs c St' :=
  fun l J Jx W hJ h1 h2 hr h0 n => h l J Jx W (fun p A hp => hs A (hJ p A hp)) h1 h2 hr h0 n

end Go.Proofs.Ytiacdpoldgfpbaa
