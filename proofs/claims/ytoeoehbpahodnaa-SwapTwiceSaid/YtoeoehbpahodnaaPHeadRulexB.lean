/-
  Tables out of numbers: Size, Bits; the edges of the ends.
-/
import Derived.Test.YtoeoehbpahodnaaPHPlainA
import Derived.Test.YtoeoehbpahodnaaPPermRxB
namespace Go.Proofs.Ytoeoehbpahodnaa
set_option linter.unusedSimpArgs false
set_option linter.unusedVariables false
set_option maxHeartbeats 600000
open Go.RowKit

set_option maxRecDepth 100000 in
theorem bits_calls (n : Nat) (hn : n ≤ 20) (a : Int) (ha : 0 ≤ a) (ha2 : a ≤ 18446744073709551615) (w : World) :
    Calls Try.prog 22 #[.int .i64 (n : Int), .int .u64 a] w fun e w' => ∃ bs, bs.length = 2 ^ n ∧ e = .returned (.slice (some ⟨w.heap.size, 0, none⟩) (2 ^ n) (2 ^ n)) ∧ BoolsAt w' w.heap.size bs ∧ Keeps w w' := by
  have HS := Lib.hid (size_calls n hn w)
  have h1 : 2 ^ n ≤ 2 ^ 20 := Nat.pow_le_pow_right (by decide) hn
  have e20 : (2 : Nat) ^ 20 = 1048576 := rfl
  obtain ⟨p, hp⟩ : ∃ p, p = 2 ^ n := ⟨_, rfl⟩
  rw [← hp] at h1 HS ⊢
  rw [e20] at h1
  clear hp
  obtain ⟨j0, hj, jz0, jz1, jz2⟩ := info_parts (show (Try.prog.info? 4).map (fun i => (i.zero, i.size, i.bytes)) = some (some (.bool false), 1, 1) by kernel_rfl)
  go_enter Try.func22, Try.ntmps22
  go_wp2_with (first
    | (go_at_call 47; refine HS.out.mono ?_; rintro e w' ⟨rfl, rfl⟩)
    | (at_make; refine wpList_make_full _ rfl _ _ 58 rfl w.heap.size 4 j0 (.bool false) 1 Try.underlying58 hj jz0 jz1 .i64 .i64 (p : Int) (p : Int) p rfl rfl rfl rfl (by rw [jz2]; omega) (by unfold maxLen; omega) (Nat.le_refl _) ?_; intro w1 hown1 hg1)
    | fail)
  have HB1 := Lib.hid (bools_made hown1)
  have HK1 := Lib.hid (show Keeps w w1 from ⟨hg1.os, hg1.tape, hg1.output, hg1.size, fun i hi => hg1.block i hi (by simp)⟩)
  clear hown1 hg1
  go_loopg [1, 6] p (fun gk s1 s6 wr => ∃ (d : Nat) (b : Int) (bs : List Bool), d + gk = p ∧ s6 = .int .i64 (d : Int) ∧ s1 = .int .u64 b ∧ 0 ≤ b ∧ b ≤ 18446744073709551615 ∧ bs.length = p ∧ BoolsAt wr w.heap.size bs ∧ Keeps w wr)
  case atStart => exact ⟨0, a, _, by omega, rfl, rfl, ha, ha2, by simp, HB1.out, HK1.out⟩
  case round =>
    obtain ⟨d, b, bs, hd, rfl, rfl, hb0, hb1, hbl, hB, hk⟩ := hrel
    have HB := Lib.hid hB
    have HK := Lib.hid hk
    clear hB hk
    by_cases hlt : d < p
    · have cD := HB.out.cell (i := d) (b := bs[d]'(by omega)) (List.getElem?_eq_getElem _)
      have fD := HB.out.frozen d
      go_wp2
      go_roundg (gk - 1)
      case rel => exact ⟨d + 1, b / 2, bs.set d _, by omega, by simp, rfl, by omega, by omega, by simp [hbl], HB.out.set d _, HK.out.new ((Upd.refl (fun k => k = w.heap.size) wr).setCell (Or.inl rfl) _) (fun k hk => by omega)⟩
      case measure => omega
    · go_wp2
      go_ret
      exact ⟨bs, hbl, rfl, HB.out, HK.out⟩

end Go.Proofs.Ytoeoehbpahodnaa

namespace Go.Proofs.Ytoeoehbpahodnaa
set_option linter.unusedSimpArgs false
set_option linter.unusedVariables false
set_option maxHeartbeats 600000
open Go

def lateB (ops : Array Oper) (n : Nat) : Bool :=
  (List.range ops.size).all fun t => decide (t ≤ n) || (List.range t).any fun j => decide (n ≤ j) && Region.waitsFor .any ops t j

section
variable {P : Program} {ops : Array Oper} {w : World}

theorem none_late {n : Nat} {listed : Array Bool} (hs : Region.sinkB .any ops n = true) (hc : lateB ops n = true) (inv : HeadInv .any ops n listed) :
    ∀ (d i : Nat), n - i = d → i < n → listed.getD i true = false → ∀ t ∈ Region.ready .any ops listed, t < n := by
  intro d
  induction d using Nat.strongRecOn with
  | _ d ih =>
    intro i hd hi hun t hr
    refine Classical.byContradiction fun hlt => ?_
    obtain ⟨_, o, ho, hall⟩ := mem_ready.1 hr
    have hts : t < ops.size := (Array.getElem?_eq_some_iff.1 ho).1
    rcases Nat.lt_or_ge n t with hnt | hnt
    · have h1 := List.all_eq_true.1 hc t (List.mem_range.2 hts)
      rw [Bool.or_eq_true] at h1
      rcases h1 with h1 | h1
      · have := of_decide_eq_true h1
        omega
      · obtain ⟨j, hj, h2⟩ := List.any_eq_true.1 h1
        rw [Bool.and_eq_true] at h2
        obtain ⟨o', ho', e, he, hb, hon⟩ := Region.waitsFor_spec h2.2
        obtain rfl : o' = o := Option.some.inj (ho'.symm.trans ho)
        have h3 := hall e he hb
        rw [hon, getD_both (inv.tail j (of_decide_eq_true h2.1) (by have := List.mem_range.1 hj; omega))] at h3
        cases h3
    · obtain rfl : t = n := by omega
      obtain ⟨j, hj, h2⟩ := List.any_eq_true.1 (List.all_eq_true.1 hs i (List.mem_range.2 hi))
      rw [Bool.and_eq_true] at h2
      have hij := of_decide_eq_true h2.1
      obtain ⟨o', ho', e, he, hb, hon⟩ := Region.waitsFor_spec h2.2
      have hjr := List.mem_range.1 hj
      by_cases hjt : j = t
      · subst hjt
        obtain rfl : o' = o := Option.some.inj (ho'.symm.trans ho)
        have h3 := hall e he hb
        rw [hon, getD_both hun] at h3
        cases h3
      · rcases hl : listed.getD j false with _ | _
        · exact hlt (ih (t - j) (by omega) j rfl (by omega) (getD_in (by rw [inv.size]; omega) hl) t hr)
        · have h3 := inv.closed j o' ho' hl e he hb
          rw [hon, getD_both hun] at h3
          cases h3

theorem head_first {n i : Nat} {oi : Oper} {v : Value} {L : Array Bool → Act → Prop} (hi : ops[i]? = some oi) (hsel : Region.noSelect ops = true) (hs : Region.sinkB .any ops n = true) (hc : lateB ops n = true) (hin : i < n)
    (hend : ∀ listed a, L listed a → ∀ j ∈ Region.ready .any ops listed, n ≤ j) :
    ∀ (f : Nat) (listed : Array Bool) (a : Act), HeadInv .any ops n listed →
      (∀ j oj, ops[j]? = some oj → j ≠ i → listed.getD j true = false → (∀ e ∈ oj.after, Region.binds .any e = true → e.on ≠ i) → oi.apart ops oj = true) →
      i ∈ Region.ready .any ops listed → YieldsAt P ops w oi v a →
      wpAnyL P .any ops w n L f (listed.setIfInBounds i true) (a.put oi.dst v) → wpAnyL P .any ops w n L (f + 1) listed a
  | f, listed, a, inv, hfree, hr, hy, H => by
    have hun := (mem_ready.1 hr).1
    refine ⟨fun h => (by rw [h] at hr; cases hr), fun j hj => ?_⟩
    have hjn := none_late hs hc inv _ i rfl hin hun j hj
    refine ⟨hjn, ?_⟩
    by_cases hji : j = i
    · subst hji
      exact hy.stOp hi H
    · cases f with
      | zero =>
        have := hend _ _ H j (ready_mono hj hji)
        omega
      | succ f =>
        obtain ⟨hjun, oj, hoj, hall⟩ := mem_ready.1 hj
        have hno : ∀ e ∈ oj.after, Region.binds .any e = true → e.on ≠ i := fun e he hb heq => by
          have h1 := hall e he hb
          rw [heq, getD_both hun] at h1
          cases h1
        have h2 := stOp_put hoj (hfree j oj hoj hji hjun hno) (fun cs b => Region.noSelect_spec hsel i oi cs b hi) (fun cs b => Region.noSelect_spec hsel j oj cs b hoj) hy (H.2 j (ready_mono hj hji)).2
        refine stOp_mono (fun a' h3 => head_first hi hsel hs hc hin hend f (listed.setIfInBounds j true) a' (inv.set hj hjn) ?_ (ready_mono hr (Ne.symm hji)) h3.1 ?_) h2
        · intro k ok hk hki hu hn'
          refine hfree k ok hk hki ?_ hn'
          by_cases hjk : j = k
          · subst hjk
            exact hjun
          · rwa [getD_set_ne true hjk] at hu
        · rw [Array.setIfInBounds_comm _ _ hji]
          exact h3.2

def lexTo (ops : Array Oper) (n : Nat) (T : Array Bool) : Nat → Nat → Array Bool → Bool
  | 0, _, listed => decide (listed = T) && (Region.ready .any ops T).all (fun j => decide (n ≤ j))
  | f + 1, k, listed => (Region.ready .any ops listed).contains k && Region.free .any ops listed k && lexTo ops n T f (k + 1) (listed.setIfInBounds k true)

theorem head_lex {n : Nat} {T : Array Bool} {G : Act → Prop} (hsel : Region.noSelect ops = true) (hs : Region.sinkB .any ops n = true) (hc : lateB ops n = true) :
    ∀ (l : List Oper) (k : Nat) (listed : Array Bool) (a : Act), (∀ j, j < l.length → l[j]? = ops[k + j]?) → k + l.length = n → HeadInv .any ops n listed → lexTo ops n T l.length k listed = true →
      wpStill P ops w G l a → wpAnyL P .any ops w n (fun listed' a' => (listed' = T ∧ ∀ j ∈ Region.ready .any ops T, n ≤ j) ∧ G a') l.length listed a
  | [], k, listed, a, _, _, _, hB, h => by
    simp only [List.length_nil, lexTo, Bool.and_eq_true, decide_eq_true_eq] at hB
    exact ⟨⟨hB.1, fun j hj => of_decide_eq_true (List.all_eq_true.1 hB.2 j hj)⟩, h⟩
  | o :: l, k, listed, a, hl, hk, inv, hB, h => by
    have h0 : ops[k]? = some o := by simpa using (hl 0 (by simp)).symm
    simp only [List.length_cons, lexTo, Bool.and_eq_true] at hB
    have hkn : k < n := by simp only [List.length_cons] at hk; omega
    have hr : k ∈ Region.ready .any ops listed := by simpa using hB.1.1
    have hst : stOp P ops w k (wpStill P ops w G l) a := by
      unfold stOp
      simp only [h0]
      exact h
    obtain ⟨v, hy, hK⟩ := yieldsAt_of_stOp h0 hst
    refine head_first h0 hsel hs hc hkn (fun listed' a' hL j hj => ?_) l.length listed a inv (Region.free_spec h0 hB.1.2) hr hy ?_
    · rw [hL.1.1] at hj
      exact hL.1.2 j hj
    · exact head_lex hsel hs hc l (k + 1) _ _ (fun j hj => by have := hl (j + 1) (by simp; omega); simpa [Nat.add_assoc, Nat.add_comm 1 j] using this) (by simp only [List.length_cons] at hk; omega) (inv.set hr hkn) hB.2 hK

def headB (ops : Array Oper) (n : Nat) (T : Array Bool) : Bool :=
  Region.noSelect ops && decide (n < ops.size) && Region.sinkB .any ops n && lateB ops n && lexTo ops n T n 0 (Array.replicate ops.size false)

theorem wp_region_head {id : Nat} {Q : Exit → Act → World → Prop} {a : Act} {l : List Oper} (n : Nat) (T : Array Bool) (hm : P.follows .mixedOrders = true) (hB : headB l.toArray n T = true)
    (h : wpStill P l.toArray w.drew (fun a' => wpAny P .any l.toArray Q (l.length - n) T a' w.drew) (l.take n) a) : (Code.region id l.toArray true).wp P Q a w := by
  simp only [headB, Bool.and_eq_true, decide_eq_true_eq] at hB
  obtain ⟨⟨⟨⟨hsel, hn⟩, hs⟩, hc⟩, hlex⟩ := hB
  have hn' : n < l.length := by simpa using hn
  have htl : (l.take n).length = n := by simp; omega
  have inv0 : HeadInv .any l.toArray n (Array.replicate l.toArray.size false) :=
    ⟨by simp, fun j oj _ hl => (by rw [getD_replicate_false] at hl; cases hl), fun t _ ht => getD_in (by simpa using ht) (getD_replicate_false _ _)⟩
  have H := head_lex hsel hs hc (l.take n) 0 (Array.replicate l.toArray.size false) a (fun j hj => by
    have hj' : j < n := by rw [htl] at hj; exact hj
    simp [hj']) (by simpa using htl) inv0 (by rw [htl]; exact hlex) h
  refine wp_region_any hm ?_
  have := wpAny_of_head (Q' := Q) (g := l.length - n) (fun listed a' hL => by rw [hL.1.1]; exact hL.2) _ _ _ H
  rw [htl, show n + (l.length - n) = l.toArray.size by simp; omega] at this
  exact this

end

end Go.Proofs.Ytoeoehbpahodnaa

namespace Go.Proofs.Ytoeoehbpahodnaa
set_option linter.unusedSimpArgs false
set_option linter.unusedVariables false
set_option maxHeartbeats 600000
open Go.RowKit

theorem Stood.putAt {F F3 : Nat → Prop} {w w3 : World} {sb : Nat} {M : St} (r3 : StoreRep F3 w3 sb M) (sub : ∀ j, F3 j → F j ∨ w.heap.size ≤ j) (u : Upd F w w3) {b : Nat} (hn : ¬ F3 b) (hb : w.heap.size ≤ b) (v0 v1 : Value) :
    Stood F w ((w3.setCell ⟨b, 0, none⟩ v0).setCell ⟨b, 1, none⟩ v1) sb M := by
  have hu : Upd (fun k => k = b) w3 ((w3.setCell ⟨b, 0, none⟩ v0).setCell ⟨b, 1, none⟩ v1) := ((Upd.refl (fun k => k = b) w3).setCell (p := ⟨b, 0, none⟩) (Or.inl rfl) v0).setCell (p := ⟨b, 1, none⟩) (Or.inl rfl) v1
  exact ⟨⟨F3, r3.keep hu (fun k hk e => hn (e ▸ hk)), sub⟩, (u.setCell (p := ⟨b, 0, none⟩) (Or.inr hb) v0).setCell (p := ⟨b, 1, none⟩) (Or.inr hb) v1⟩

end Go.Proofs.Ytoeoehbpahodnaa
