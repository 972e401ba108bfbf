/-
  canon.Cube where the levels, the form or the cube are strange.
-/
import Derived.Test.YtiacdpoldgfpbaaGreatPRCubeWxF
namespace Go.Proofs.YtiacdpoldgfpbaaGreat
set_option linter.unusedSimpArgs false
set_option linter.unusedVariables false
set_option maxHeartbeats 600000
open Go.RowKit

theorem bitB_test (U k : Nat) : bitB (U : Int) (k : Int) = U.testBit k := by
  rw [bitB_nat, Nat.testBit_eq_decide_div_mod_eq]

def strangeB (U l n : Int) : Bool := (List.range 16).any (fun k => bitB U (k : Int) && (decide ((k : Int) < l) || decide (n ≤ (k : Int))))

theorem and_low_u32 (U l : Nat) (hU : U ≤ 65535) (hl : l ≤ 16) : bits BinOp.and IntKind.u32 ((U : Int) % 4294967296) (((2 : Int) ^ l - 1) % 4294967296) = ((U % 2 ^ l : Nat) : Int) := by
  have hp : 2 ^ l ≤ 2 ^ 16 := Nat.pow_le_pow_right (by decide) hl
  have hp0 : 0 < 2 ^ l := Nat.pow_pos (by decide)
  have e16 : (2 : Nat) ^ 16 = 65536 := rfl
  rw [e16] at hp
  have e1 : (U : Int) % 4294967296 = (U : Int) := by omega
  have e2 : (((2 : Int) ^ l - 1) % 4294967296) = ((2 ^ l - 1 : Nat) : Int) := by
    have : ((2 : Int) ^ l) = ((2 ^ l : Nat) : Int) := by push_cast; rfl
    rw [this]
    omega
  rw [e1, e2]
  have h1 : (BitVec.ofInt 32 (U : Int)).toNat = U := by
    rw [BitVec.ofInt_natCast, BitVec.toNat_ofNat]; exact Nat.mod_eq_of_lt (by omega)
  have h2 : (BitVec.ofInt 32 ((2 ^ l - 1 : Nat) : Int)).toNat = 2 ^ l - 1 := by
    rw [BitVec.ofInt_natCast, BitVec.toNat_ofNat]; exact Nat.mod_eq_of_lt (by omega)
  show IntKind.u32.wrap ((BitVec.ofInt 32 (U : Int) &&& BitVec.ofInt 32 ((2 ^ l - 1 : Nat) : Int)).toNat : Int) = _
  have hm : U &&& (2 ^ l - 1) = U % 2 ^ l := Nat.and_two_pow_sub_one_eq_mod U l
  rw [BitVec.toNat_and, h1, h2, hm, IntKind.wrap_u32]
  have := Nat.mod_le U (2 ^ l)
  omega

theorem strange_iff (U l n : Nat) (hU : U ≤ 65535) (hl : l ≤ 16) (hn : n ≤ 16) : strangeB (U : Int) (l : Int) (n : Int) = true ↔ ¬ ((U : Int) % 4294967296 / 2 ^ n = 0) ∨ ¬ (U % 2 ^ l = 0) := by
  have e1 : (U : Int) % 4294967296 / 2 ^ n = ((U / 2 ^ n : Nat) : Int) := by
    rw [show (U : Int) % 4294967296 = (U : Int) by omega]
    push_cast
    rfl
  have hz : ((U : Int) % 4294967296 / 2 ^ n = 0) ↔ U < 2 ^ n := by
    rw [e1]
    have hp0 : 0 < 2 ^ n := Nat.pow_pos (by decide)
    constructor
    · intro h
      have : U / 2 ^ n = 0 := by exact_mod_cast h
      exact (Nat.div_eq_zero_iff_lt hp0).1 this
    · intro h
      rw [Nat.div_eq_of_lt h]
      rfl
  have h16 : ∀ k, 16 ≤ k → U.testBit k = false := fun k hk => Nat.testBit_lt_two_pow (Nat.lt_of_lt_of_le (show U < 2 ^ 16 by have : (2 : Nat) ^ 16 = 65536 := rfl; omega) (Nat.pow_le_pow_right (by decide) hk))
  unfold strangeB
  rw [List.any_eq_true, hz]
  constructor
  · rintro ⟨k, hk, hb⟩
    rw [bitB_test, Bool.and_eq_true, Bool.or_eq_true, decide_eq_true_eq, decide_eq_true_eq] at hb
    obtain ⟨h1, h2 | h2⟩ := hb
    · right
      intro hh
      have : (U % 2 ^ l).testBit k = true := by rw [Nat.testBit_mod_two_pow, h1, decide_eq_true (by omega)]; rfl
      rw [hh] at this
      simp at this
    · left
      intro hh
      have : U.testBit k = false := Nat.testBit_lt_two_pow (Nat.lt_of_lt_of_le hh (Nat.pow_le_pow_right (by decide) (by omega)))
      rw [h1] at this
      cases this
  · intro h
    refine Classical.byContradiction fun hno => ?_
    have hall : ∀ k, (k < l ∨ n ≤ k) → U.testBit k = false := fun k hk => by
      by_cases hk16 : k < 16
      · cases hb : U.testBit k with
        | false => rfl
        | true =>
          exfalso
          refine hno ⟨k, List.mem_range.2 hk16, ?_⟩
          rw [bitB_test, hb, Bool.true_and, Bool.or_eq_true, decide_eq_true_eq, decide_eq_true_eq]
          omega
      · exact h16 k (by omega)
    rcases h with h | h
    · exact h (Nat.lt_pow_two_of_testBit _ (fun k hk => hall k (.inr hk)))
    · refine h (Nat.eq_of_testBit_eq fun k => ?_)
      rw [Nat.testBit_mod_two_pow, Nat.zero_testBit]
      by_cases hk : k < l
      · rw [hall k (.inl hk), Bool.and_false]
      · rw [decide_eq_false hk, Bool.false_and]

set_option maxRecDepth 100000 in
theorem cube_shape (sb : Nat) (f l o z : Int) (w : World) (hf : isFormB f = false) : Calls Tryz.prog 10 #[.pointer (some ⟨sb, 0, none⟩), .int .u8 f, .int .i64 l, .int .u16 o, .int .u16 z] w fun e w' => e = .returned (.tuple #[.agg #[.int .u8 (⟨0, 0⟩ : Edge).tag, .int .u32 (⟨0, 0⟩ : Edge).to], .int .u8 4]) ∧ Keeps w w' := by
  have hfc := isForm_calls f
  rw [hf] at hfc
  have HFC := Lib.hid hfc
  clear hfc hf
  go_enter Tryz.func10, Tryz.ntmps10
  go_wp2_with (first | (go_at_call 40; refine (HFC.out _).mono ?_; rintro e w' ⟨rfl, rfl⟩) | fail)
  refine bodyPost_ret (v := .tuple #[.agg #[.int .u8 (⟨0, 0⟩ : Edge).tag, .int .u32 (⟨0, 0⟩ : Edge).to], .int .u8 4]) (by simp [results, Tryz.results10, go_sem]) rfl ⟨rfl, by (exact kp)⟩

set_option maxRecDepth 100000 in
theorem cube_var {F : Nat → Prop} {w : World} {sb : Nat} {M : St} (h : StoreRep F w sb M) (f l o z : Int) (hf : isFormB f = true) (o0 : 0 ≤ o) (o1 : o ≤ 65535) (z0 : 0 ≤ z) (z1 : z ≤ 65535)
    (hc : l < 0 ∨ M.n < l ∨ (0 ≤ l ∧ l ≤ M.n ∧ (¬ (bits BinOp.or IntKind.u16 o z % 4294967296 / 2 ^ M.n.toNat = 0) ∨ ((bits BinOp.or IntKind.u16 o z % 4294967296 / 2 ^ M.n.toNat = 0) ∧ (bits BinOp.and IntKind.u32 (bits BinOp.or IntKind.u16 o z % 4294967296) ((2 ^ l.toNat - 1) % 4294967296) != 0) = true)))) :
    Calls Tryz.prog 10 #[.pointer (some ⟨sb, 0, none⟩), .int .u8 f, .int .i64 l, .int .u16 o, .int .u16 z] w fun e w' => e = .returned (.tuple #[.agg #[.int .u8 (⟨0, 0⟩ : Edge).tag, .int .u32 (⟨0, 0⟩ : Edge).to], .int .u8 3]) ∧ Keeps w w' := by
  have hfc := isForm_calls f
  rw [hf] at hfc
  have HFC := Lib.hid hfc
  have hn0 := h.wf.n0
  have hn16 := h.wf.n16
  have HV := Lib.hid (fun (W : World) (hW : Keeps w W) => store_vars (h.keeps hW))
  clear hfc hf h
  rcases hc with hc | hc | ⟨l0, l1, hc | ⟨h1, h2⟩⟩
  · go_enter Tryz.func10, Tryz.ntmps10
    go_wp2_with (first | (go_at_call 40; refine (HFC.out _).mono ?_; rintro e w' ⟨rfl, rfl⟩) | (go_at_call 41; refine (HV.out _ (by (exact kp))).mono ?_; rintro e w' ⟨rfl, rfl⟩) | fail)
    refine bodyPost_ret (v := .tuple #[.agg #[.int .u8 (⟨0, 0⟩ : Edge).tag, .int .u32 (⟨0, 0⟩ : Edge).to], .int .u8 3]) (by simp [results, Tryz.results10, go_sem]) rfl ⟨rfl, by (exact kp)⟩
  · have l0 : ¬ l < 0 := by omega
    go_enter Tryz.func10, Tryz.ntmps10
    go_wp2_with (first | (go_at_call 40; refine (HFC.out _).mono ?_; rintro e w' ⟨rfl, rfl⟩) | (go_at_call 41; refine (HV.out _ (by (exact kp))).mono ?_; rintro e w' ⟨rfl, rfl⟩) | fail)
    refine bodyPost_ret (v := .tuple #[.agg #[.int .u8 (⟨0, 0⟩ : Edge).tag, .int .u32 (⟨0, 0⟩ : Edge).to], .int .u8 3]) (by simp [results, Tryz.results10, go_sem]) rfl ⟨rfl, by (exact kp)⟩
  · have hc2 : (bits BinOp.or IntKind.u16 o z % 4294967296 / 2 ^ M.n.toNat != 0) = true := by simpa using hc
    go_enter Tryz.func10, Tryz.ntmps10
    go_wp2_with (first | (go_at_call 40; refine (HFC.out _).mono ?_; rintro e w' ⟨rfl, rfl⟩) | (go_at_call 41; refine (HV.out _ (by (exact kp))).mono ?_; rintro e w' ⟨rfl, rfl⟩) | fail)
    refine bodyPost_ret (v := .tuple #[.agg #[.int .u8 (⟨0, 0⟩ : Edge).tag, .int .u32 (⟨0, 0⟩ : Edge).to], .int .u8 3]) (by simp [results, Tryz.results10, go_sem]) rfl ⟨rfl, by (exact kp)⟩
  · go_enter Tryz.func10, Tryz.ntmps10
    go_wp2_with (first | (go_at_call 40; refine (HFC.out _).mono ?_; rintro e w' ⟨rfl, rfl⟩) | (go_at_call 41; refine (HV.out _ (by (exact kp))).mono ?_; rintro e w' ⟨rfl, rfl⟩) | fail)
    refine bodyPost_ret (v := .tuple #[.agg #[.int .u8 (⟨0, 0⟩ : Edge).tag, .int .u32 (⟨0, 0⟩ : Edge).to], .int .u8 3]) (by simp [results, Tryz.results10, go_sem]) rfl ⟨rfl, by (exact kp)⟩

set_option maxRecDepth 100000 in
theorem cube_arg {F : Nat → Prop} {w : World} {sb : Nat} {M : St} (h : StoreRep F w sb M) (f l o z : Int) (hf : isFormB f = true) (l0 : 0 ≤ l) (l1 : l ≤ M.n)
    (g1 : bits BinOp.or IntKind.u16 o z % 4294967296 / 2 ^ M.n.toNat = 0) (g2 : (bits BinOp.and IntKind.u32 (bits BinOp.or IntKind.u16 o z % 4294967296) ((2 ^ l.toNat - 1) % 4294967296) != 0) = false)
    (g3 : (bits BinOp.and IntKind.u16 o z != 0) = true) :
    Calls Tryz.prog 10 #[.pointer (some ⟨sb, 0, none⟩), .int .u8 f, .int .i64 l, .int .u16 o, .int .u16 z] w fun e w' => e = .returned (.tuple #[.agg #[.int .u8 (⟨0, 0⟩ : Edge).tag, .int .u32 (⟨0, 0⟩ : Edge).to], .int .u8 1]) ∧ Keeps w w' := by
  have hfc := isForm_calls f
  rw [hf] at hfc
  have HFC := Lib.hid hfc
  have hn0 := h.wf.n0
  have hn16 := h.wf.n16
  have HV := Lib.hid (fun (W : World) (hW : Keeps w W) => store_vars (h.keeps hW))
  clear hfc hf h
  go_enter Tryz.func10, Tryz.ntmps10
  go_wp2_with (first | (go_at_call 40; refine (HFC.out _).mono ?_; rintro e w' ⟨rfl, rfl⟩) | (go_at_call 41; refine (HV.out _ (by (exact kp))).mono ?_; rintro e w' ⟨rfl, rfl⟩) | fail)
  refine bodyPost_ret (v := .tuple #[.agg #[.int .u8 (⟨0, 0⟩ : Edge).tag, .int .u32 (⟨0, 0⟩ : Edge).to], .int .u8 1]) (by simp [results, Tryz.results10, go_sem]) rfl ⟨rfl, by (exact kp)⟩

end Go.Proofs.YtiacdpoldgfpbaaGreat
