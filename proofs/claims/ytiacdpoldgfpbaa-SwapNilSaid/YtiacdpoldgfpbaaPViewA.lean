/-
  Built: a store and the document's, behind records that are found.
-/
import Derived.Test.YtiacdpoldgfpbaaPRefB
import Derived.RegionTactic
namespace Go.Proofs.Ytiacdpoldgfpbaa
set_option linter.unusedSimpArgs false
set_option linter.unusedVariables false
set_option maxHeartbeats 600000
open Go.RowKit

def IsRecs (w : World) (a : Option Addr) (len : Nat) (rs : List Rec) : Prop :=
  rs.length = len ∧ ∀ i r, rs[i]? = some r → r.ok ∧ ∃ b off, a = some ⟨b, off, none⟩ ∧ ∀ j, j < 7 → w.cell? ⟨b, off + i * 7 + j, none⟩ = (recVals r)[j]?

theorem Keeps.new {F : Nat → Prop} {w W W1 : World} (h : Keeps w W) (hu : Upd F W W1) (hf : ∀ k, F k → w.heap.size ≤ k) : Keeps w W1 := by
  have hs := h.size
  refine ⟨hu.os.trans h.os, hu.tape.trans h.tape, hu.output.trans h.output, Nat.le_trans hs hu.size, fun k hk => ?_⟩
  rw [hu.block k (by omega) (fun hh => by have := hf k hh; omega), h.block k hk]

structure Both (w0 w : World) (sb mb : Nat) (M : St) (L : List (Int × Rec)) : Prop where
  ex : ∃ F G, StoreRep F w sb M ∧ RefRep G w mb M L ∧ (∀ k, F k → ¬ G k) ∧ (∀ k, F k → w0.heap.size ≤ k) ∧ (∀ k, G k → w0.heap.size ≤ k)
  keep : Keeps w0 w

theorem Both.keeps {w0 w W : World} {sb mb : Nat} {M : St} {L : List (Int × Rec)} (h : Both w0 w sb mb M L) (hk : Keeps w W) : Both w0 W sb mb M L := by
  obtain ⟨⟨F, G, h1, h2, h3⟩, h4⟩ := h
  exact ⟨⟨F, G, h1.keeps hk, h2.keeps hk, h3⟩, h4.trans hk⟩

theorem Both.step {w0 w w1 w1' w2 : World} {sb mb : Nat} {M M' : St} {L L' : List (Int × Rec)} {F G : Nat → Prop} (h1 : StoreRep F w sb M) (h2 : RefRep G w mb M L) (h3 : ∀ k, F k → ¬ G k) (h4 : ∀ k, F k → w0.heap.size ≤ k) (h5 : ∀ k, G k → w0.heap.size ≤ k) (h6 : Keeps w0 w)
    (u1 : Upd F w w1) (s1 : StoreRep (Grow F w w1) w1 sb M') (k1 : Keeps w1 w1') (u2 : Upd G w1' w2) (s2 : RefRep (Grow G w1' w2) w2 mb M' L') : Both w0 w2 sb mb M' L' := by
  have z0 := h6.size
  have z1 := u1.size
  have z2 := k1.size
  refine ⟨⟨Grow F w w1, Grow G w1' w2, (s1.keeps k1).keep u2 ?_, s2, ?_, ?_, ?_⟩, ((h6.new u1 h4).trans k1).new u2 h5⟩
  · intro k hk hg
    rcases hk with hk | hk
    · exact h3 k hk hg
    · have := h2.lt k hg
      omega
  · intro k hk hg
    have hl := s1.lt k hk
    rcases hg with hg | hg
    · rcases hk with hk | hk
      · exact h3 k hk hg
      · have := h2.lt k hg
        omega
    · omega
  · intro k hk
    rcases hk with hk | hk
    · exact h4 k hk
    · omega
  · intro k hk
    rcases hk with hk | hk
    · exact h5 k hk
    · omega

theorem findSt_n (M : St) (r : Rec) : (M.findSt r).n = M.n := by
  unfold St.findSt
  split
  · rfl
  · split
    · rfl
    · split
      · rfl
      · rfl

theorem findSt_room (M : St) (r : Rec) : (M.findSt r).room = M.room := by
  unfold St.findSt
  split
  · rfl
  · split
    · rfl
    · split
      · rfl
      · rfl

theorem findSt_len (M : St) (r : Rec) : M.len ≤ (M.findSt r).len ∧ (M.findSt r).len ≤ M.len + 1 := by
  unfold St.findSt
  split
  · omega
  · split
    · omega
    · split
      · omega
      · have := putLen (cs := M.cs) (gone := M.gone) (r := r)
        unfold St.len
        simp only []
        omega

end Go.Proofs.Ytiacdpoldgfpbaa

namespace Go.Proofs.Ytiacdpoldgfpbaa
set_option linter.unusedSimpArgs false
set_option linter.unusedVariables false
set_option maxHeartbeats 600000
open Go.RowKit

theorem RefRep.room {F : Nat → Prop} {w : World} {mb : Nat} {M : St} {L : List (Int × Rec)} (h : RefRep F w mb M L) : w.cell? ⟨mb, 4, none⟩ = some (.int .i64 M.room) := by
  obtain ⟨⟨lv, gv, h1, -⟩, -⟩ := h
  rw [cell_of_row w mb 4 _ _ _ h1]
  rfl

end Go.Proofs.Ytiacdpoldgfpbaa

namespace Go.Proofs.Ytiacdpoldgfpbaa
set_option linter.unusedSimpArgs false
set_option linter.unusedVariables false
set_option maxHeartbeats 600000
open Go.RowKit

theorem Keeps.frz {w w' : World} (h : Keeps w w') {a : Addr} (hl : a.block < w.heap.size) (hc : w.frozen? a = false) : w'.frozen? a = false := (Below.frozen h hl).trans hc

end Go.Proofs.Ytiacdpoldgfpbaa

namespace Go.Proofs.Ytiacdpoldgfpbaa
set_option linter.unusedSimpArgs false
set_option linter.unusedVariables false
set_option maxHeartbeats 600000
open Go.RowKit

theorem eql_same (x y : Edge) (h : x = y) (W : World) : (binOp .eql 24 (.agg #[.int .u8 x.tag, .int .u32 x.to]) (.agg #[.int .u8 y.tag, .int .u32 y.to])).run Try.prog W = .ok (.bool true) W := by rw [run_eql_edge]; simp [h]

theorem eql_other (x y : Edge) (h : x ≠ y) (W : World) : (binOp .eql 24 (.agg #[.int .u8 x.tag, .int .u32 x.to]) (.agg #[.int .u8 y.tag, .int .u32 y.to])).run Try.prog W = .ok (.bool false) W := by rw [run_eql_edge]; simp [h]

end Go.Proofs.Ytiacdpoldgfpbaa

namespace Go.Proofs.Ytiacdpoldgfpbaa
set_option linter.unusedSimpArgs false
set_option linter.unusedVariables false
set_option maxHeartbeats 600000
open Go.RowKit

def IntsAt (w : World) (a : Option Addr) (ps : List Int) : Prop := ∀ i x, ps[i]? = some x → ∃ b off, a = some ⟨b, off, none⟩ ∧ w.cell? ⟨b, off + i, none⟩ = some (.int .i64 x)

theorem IntsAt.keeps {w w' : World} {a : Option Addr} {ps : List Int} (h : IntsAt w a ps) (hk : Keeps w w') : IntsAt w' a ps := fun i x hx => by
  obtain ⟨b, off, ha, hc⟩ := h i x hx
  exact ⟨b, off, ha, hk.cell hc⟩

theorem wrap_nat64 (n : Nat) (h : n < 2 ^ 63) : IntKind.i64.wrap (n : Int) = (n : Int) := by
  have e : (n : Int) % 2 ^ 64 = n := Int.emod_eq_of_lt (by omega) (by omega)
  simp only [IntKind.wrap, IntKind.bits, IntKind.signed, e]
  rw [if_neg]
  simp
  omega

theorem and_one_i64 (E : Int) (h0 : 0 ≤ E) (h1 : E ≤ 9223372036854775807) : bits BinOp.and IntKind.i64 E 1 = E % 2 := by
  obtain ⟨a, rfl⟩ : ∃ a : Nat, E = (a : Int) := ⟨E.toNat, by omega⟩
  have hx2 : a &&& 1 = a % 2 := Nat.and_one_is_mod a
  have h1 : (BitVec.ofInt 64 (a : Int)).toNat = a := by
    rw [BitVec.ofInt_natCast, BitVec.toNat_ofNat]; exact Nat.mod_eq_of_lt (by omega)
  have h2 : (BitVec.ofInt 64 ((1 : Nat) : Int)).toNat = 1 := by
    rw [BitVec.ofInt_natCast, BitVec.toNat_ofNat]
  show IntKind.i64.wrap ((BitVec.ofInt 64 (a : Int) &&& BitVec.ofInt 64 ((1 : Nat) : Int)).toNat : Int) = _
  rw [BitVec.toNat_and, h1, h2, hx2, wrap_nat64 _ (by omega)]
  omega

theorem or_i64 (a b : Nat) (ha : a < 2 ^ 62) (hb : b < 2 ^ 62) : bits BinOp.or IntKind.i64 (a : Int) (b : Int) = ((a ||| b : Nat) : Int) := by
  have h1 : ∀ c : Nat, c < 2 ^ 62 → (BitVec.ofInt 64 (c : Int)).toNat = c := fun c hc => by
    rw [BitVec.ofInt_natCast, BitVec.toNat_ofNat]; exact Nat.mod_eq_of_lt (by omega)
  have hx : a ||| b < 2 ^ 62 := Nat.or_lt_two_pow ha hb
  show IntKind.i64.wrap ((BitVec.ofInt 64 (a : Int) ||| BitVec.ofInt 64 (b : Int)).toNat : Int) = _
  rw [BitVec.toNat_or, h1 a ha, h1 b hb, wrap_nat64 _ (by omega)]

def MaskOf (m : Nat) (l : List Int) : Prop := m < 65536 ∧ ∀ j : Nat, m.testBit j = true ↔ (j : Int) ∈ l

theorem MaskOf.nil : MaskOf 0 [] := ⟨by decide, fun j => by simp⟩

theorem MaskOf.add {m : Nat} {l : List Int} {x : Int} (h : MaskOf m l) (h0 : 0 ≤ x) (h1 : x < 16) : MaskOf (m ||| 2 ^ x.toNat) (l ++ [x]) := by
  have hp : 2 ^ x.toNat < 2 ^ 16 := Nat.pow_lt_pow_right (by decide) (by omega)
  refine ⟨Nat.or_lt_two_pow (n := 16) h.1 hp, fun j => ?_⟩
  rw [Nat.testBit_or, Bool.or_eq_true, h.2 j, List.mem_append, List.mem_singleton, Nat.testBit_two_pow]
  simp only [decide_eq_true_eq]
  constructor
  · rintro (a | a)
    · exact .inl a
    · exact .inr (by omega)
  · rintro (a | a)
    · exact .inl a
    · exact .inr (by omega)

theorem MaskOf.bit {m : Nat} {l : List Int} {x : Int} (h : MaskOf m l) (h0 : 0 ≤ x) : (bits BinOp.and IntKind.i64 ((m : Int) / 2 ^ x.toNat) 1 == 1) = decide (x ∈ l) := by
  have hm := h.1
  have hp : (0 : Int) < 2 ^ x.toNat := Int.pow_pos (by decide)
  have a0 : 0 ≤ (m : Int) / 2 ^ x.toNat := Int.ediv_nonneg (by omega) (by omega)
  have a1 : (m : Int) / 2 ^ x.toNat ≤ m := Int.ediv_le_self _ (by omega)
  rw [and_one_i64 _ a0 (by omega)]
  have hb := h.2 x.toNat
  rw [show ((x.toNat : Nat) : Int) = x by omega] at hb
  have e : (m : Int) / 2 ^ x.toNat = ((m / 2 ^ x.toNat : Nat) : Int) := by push_cast; rfl
  rw [e]
  have ht : m.testBit x.toNat = decide (m / 2 ^ x.toNat % 2 = 1) := Nat.testBit_eq_decide_div_mod_eq
  by_cases hin : x ∈ l
  · have := hb.2 hin
    rw [ht, decide_eq_true_eq] at this
    rw [decide_eq_true hin, beq_iff_eq]
    omega
  · have : ¬ m / 2 ^ x.toNat % 2 = 1 := fun hh => hin (hb.1 (by rw [ht]; exact decide_eq_true hh))
    rw [decide_eq_false hin, beq_eq_false_iff_ne]
    omega

end Go.Proofs.Ytiacdpoldgfpbaa
