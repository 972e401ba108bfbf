/-
  Walks of package index.
-/
import Derived.Test.YtimffidpbcflaaaNode
import Derived.Test.YtimffidpbcflaaaRep
namespace Go.Proofs.Ytimffidpbcflaaa
set_option linter.unusedSimpArgs false
set_option linter.unusedVariables false
set_option maxHeartbeats 600000
open Go.RowKit

/-- What home makes of a hash. -/
def homeX (r : Rec) : Int :=
  bits BinOp.xor IntKind.u64 (IntKind.u64.wrap (hashF r * 11400714819323198485)) (IntKind.u64.wrap (hashF r * 11400714819323198485) / 4294967296)

/-- The place of a key in a table of len slots. -/
def homeN (r : Rec) (len : Nat) : Nat := (homeX r).toNat % len

theorem homeX_range (r : Rec) : 0 ≤ homeX r ∧ homeX r < 18446744073709551616 := by
  unfold homeX bits
  simp only [IntKind.wrap_u64]
  omega

theorem home_and (r : Rec) (p len : Nat) (hp : len = 2 ^ p) (h22 : len ≤ 4194304) : bits BinOp.and IntKind.u64 (homeX r) ((len : Int) - 1) = (homeN r len : Int) := by
  obtain ⟨h0, h1⟩ := homeX_range r
  have hp22 : p ≤ 22 := by
    rcases Nat.lt_or_ge 22 p with h | h
    · have := Nat.pow_lt_pow_right (a := 2) (by decide) h
      omega
    · exact h
  have h := bits_mask .u64 64 (by decide) (fun n h0 h1 => by rw [IntKind.wrap_u64]; omega) p (by omega) (homeX r) h0 (by omega)
  have e : (len : Int) = 2 ^ p := by rw [hp]; simp
  rw [e, h, homeN, hp]
  rw [Int.natCast_emod, Int.toNat_of_nonneg h0]
  simp

theorem next_and (i p len : Nat) (hp : len = 2 ^ p) (h22 : len ≤ 4194304) (hi : i < len) : bits BinOp.and IntKind.i64 ((i : Int) + 1) ((len : Int) - 1) = (((i + 1) % len : Nat) : Int) := by
  have hp22 : p ≤ 22 := by
    rcases Nat.lt_or_ge 22 p with h | h
    · have := Nat.pow_lt_pow_right (a := 2) (by decide) h
      omega
    · exact h
  have h := bits_mask .i64 63 (by decide) (fun n h0 h1 => by rw [IntKind.wrap_i64]; omega) p (by omega) ((i : Int) + 1) (by omega) (by omega)
  have e : (len : Int) = 2 ^ p := by rw [hp]; simp
  rw [e, h, hp]
  simp

theorem method_hash (a b c d e f g : Value) (w : World) : (method 275 106 (.agg #[a, b, c, d, e, f, g]) "Hash").run Try.prog w = .ok (152, .agg #[a, b, c, d, e, f, g]) w := by kernel_rfl

set_option maxRecDepth 100000 in
theorem home_calls (ib tb len cap p : Nat) (r : Rec) (hr : r.ok) (w : World) (h0 : w.cell? ⟨ib, 0, none⟩ = some (.slice (some ⟨tb, 0, none⟩) len cap)) (h8 : 8 ≤ len) (h22 : len ≤ 4194304) (hp : len = 2 ^ p) :
    Calls Try.prog 112 #[.pointer (some ⟨ib, 0, none⟩), .agg #[.int .u8 r.form, .int .u8 r.top, .int .u8 r.bot, .int .u8 r.lo.tag, .int .u32 r.lo.to, .int .u8 r.hi.tag, .int .u32 r.hi.to]] w fun e w' =>
      e = .returned (.int .i64 (homeN r len : Int)) ∧ Keeps w w' := by
  have hib : ib < w.heap.size := lt_of_cell h0
  have hh := home_and r p len hp h22
  have hn : homeN r len < len := Nat.mod_lt _ (by omega)
  unfold homeX at hh
  have hm := method_hash
  clear hp
  go_enter Try.func112, Try.ntmps112
  go_wp2_with (first | (go_at_call 152; refine (hash_calls _ hr _).mono ?_; rintro e w1 ⟨rfl, hb⟩; have hk : Keeps w w1 := (by (repeat (first | with_reducible exact Keeps.refl _ | with_reducible assumption | with_reducible refine Keeps.alloc ?_ _ | with_reducible refine Keeps.drewN ?_ _ | with_reducible refine Keeps.drew ?_ | refine Keeps.setCell ?_ (by dsimp only; omega) _ | with_reducible refine Keeps.trans ?_ (by assumption)))); obtain ⟨hc, hf⟩ := hb.cells; obtain ⟨hcl, hfl⟩ := hk.cells; have hsz := hb.size; (try simp only [World.size_alloc, World.size_drewN, World.size_drew, World.size_setCell] at hsz); have hsl := hk.size; have hz0 : w.heap.size < w1.heap.size := (by omega)) | fail)
  go_ret
  exact ⟨rfl, by (repeat (first | with_reducible exact Keeps.refl _ | with_reducible assumption | with_reducible refine Keeps.alloc ?_ _ | with_reducible refine Keeps.drewN ?_ _ | with_reducible refine Keeps.drew ?_ | refine Keeps.setCell ?_ (by dsimp only; omega) _ | with_reducible refine Keeps.trans ?_ (by assumption)))⟩


theorem next_calls (ib tb len cap i p : Nat) (w : World) (h0 : w.cell? ⟨ib, 0, none⟩ = some (.slice (some ⟨tb, 0, none⟩) len cap)) (h8 : 8 ≤ len) (h22 : len ≤ 4194304) (hi : i < len) (hp : len = 2 ^ p) :
    Calls Try.prog 111 #[.pointer (some ⟨ib, 0, none⟩), .int .i64 i] w fun e w' =>
      e = .returned (.int .i64 (((i + 1) % len : Nat) : Int)) ∧ w = w' := by
  have hh := next_and i p len hp h22 hi
  clear hp
  go_enter Try.func111, Try.ntmps111
  go_wp2
  go_ret
  exact ⟨rfl, rfl⟩

end Go.Proofs.Ytimffidpbcflaaa
