/-
  What an assignment has at levels: Value, clear, free, side; may.
-/
import Derived.Test.YtnkehgohamjpaaaPCube
import Derived.Test.YtnkehgohamjpaaaPHPlainA
namespace Go.Proofs.Ytnkehgohamjpaaa
set_option linter.unusedSimpArgs false
set_option linter.unusedVariables false
set_option maxHeartbeats 600000
open Go.RowKit

theorem and_one_u16 (E : Int) (h0 : 0 ≤ E) (h1 : E ≤ 65535) : bits BinOp.and IntKind.u16 E 1 = E % 2 := by
  obtain ⟨a, rfl⟩ : ∃ a : Nat, E = (a : Int) := ⟨E.toNat, by omega⟩
  have hx : a &&& 1 < 2 ^ 16 := Nat.and_lt_two_pow _ (by omega)
  have hx2 : a &&& 1 = a % 2 := Nat.and_one_is_mod a
  have h1 : (BitVec.ofInt 16 (a : Int)).toNat = a := by
    rw [BitVec.ofInt_natCast, BitVec.toNat_ofNat]; exact Nat.mod_eq_of_lt (by omega)
  have h2 : (BitVec.ofInt 16 ((1 : Nat) : Int)).toNat = 1 := by
    rw [BitVec.ofInt_natCast, BitVec.toNat_ofNat]
  show IntKind.u16.wrap ((BitVec.ofInt 16 (a : Int) &&& BitVec.ofInt 16 ((1 : Nat) : Int)).toNat : Int) = _
  rw [BitVec.toNat_and, h1, h2, IntKind.wrap_u16]
  omega

/-- The bit of a level. -/
def bitB (x k : Int) : Bool := decide (x / 2 ^ k.toNat % 2 = 1)

theorem shr_range {x : Int} (h0 : 0 ≤ x) (h1 : x ≤ 65535) (k : Nat) : 0 ≤ x / 2 ^ k ∧ x / 2 ^ k ≤ 65535 := by
  have hp : (0 : Int) < 2 ^ k := Int.pow_pos (by decide)
  refine ⟨Int.ediv_nonneg h0 (by omega), ?_⟩
  have := Int.ediv_le_self (2 ^ k : Int) h0
  omega

theorem bit_u16 {x : Int} (h0 : 0 ≤ x) (h1 : x ≤ 65535) (k : Int) : (bits BinOp.and IntKind.u16 (x / 2 ^ k.toNat) 1 == 1) = bitB x k := by
  obtain ⟨a, b⟩ := shr_range h0 h1 k.toNat
  rw [and_one_u16 _ a b]
  unfold bitB
  by_cases h : x / 2 ^ k.toNat % 2 = 1
  · rw [decide_eq_true h, h]; rfl
  · rw [decide_eq_false h]; simpa using h

/-- No bit at so many levels from one on. -/
def clearN (x a : Int) : Nat → Bool
  | 0 => true
  | n + 1 => !bitB x a && clearN x (a + 1) n

set_option maxRecDepth 100000 in
theorem clear_calls (x a b : Int) (w : World) (hx0 : 0 ≤ x) (hx1 : x ≤ 65535) (ha : 0 ≤ a) (hb2 : b ≤ 17) :
    Calls Try.prog 92 #[.int .u16 x, .int .i64 a, .int .i64 b] w fun e w' => e = .returned (.bool (clearN x a (b - a).toNat)) ∧ w = w' := by
  obtain ⟨N, hN⟩ : ∃ N, N = (b - a).toNat := ⟨_, rfl⟩
  rw [← hN]
  have HN := Lib.hid hN
  clear hN
  go_enter Try.func92, Try.ntmps92
  go_wp2
  go_loopg [7] N (fun gk s7 wr => ∃ k : Int, s7 = .int .i64 k ∧ a ≤ k ∧ (k ≤ b ∨ k = a) ∧ gk = (b - k).toNat ∧ clearN x k gk = clearN x a N ∧ w = wr)
  case atStart => exact ⟨a, rfl, Int.le_refl _, .inr rfl, HN.out, rfl, rfl⟩
  case round =>
    obtain ⟨k, rfl, hk0, hk1, hgk, hcl, rfl⟩ := hrel
    have HC := Lib.hid hcl
    have HG := Lib.hid hgk
    clear hcl hgk
    have k0 : 0 ≤ k := by omega
    by_cases hlt : k < b
    · obtain ⟨g, rfl⟩ : ∃ g, gk = g + 1 := ⟨gk - 1, by have := HG.out; omega⟩
      have hg2 : g = (b - (k + 1)).toNat := by have := HG.out; omega
      have HG2 := Lib.hid hg2
      have hcs : clearN x k (g + 1) = (!bitB x k && clearN x (k + 1) g) := rfl
      have HCS := Lib.hid hcs
      clear hg2 hcs
      rcases bool_cases (bitB x k) with hbit | hbit
      · have hb16 := bit_u16 hx0 hx1 k
        rw [hbit] at hb16
        have HBIT := Lib.hid hbit
        clear hbit
        go_wp2_with fail
        go_roundg g
        case rel => exact ⟨k + 1, rfl, by omega, by omega, HG2.out, by rw [← HC.out, HCS.out, HBIT.out]; rfl, rfl⟩
        case measure => omega
      · have hb16 := bit_u16 hx0 hx1 k
        rw [hbit] at hb16
        have HBIT := Lib.hid hbit
        clear hbit
        go_wp2_with fail
        go_ret
        exact ⟨by rw [← HC.out, HCS.out, HBIT.out]; rfl, rfl⟩
    · have hg0 : gk = 0 := by have := HG.out; omega
      have HG0 := Lib.hid hg0
      clear hg0
      go_wp2_with fail
      go_ret
      exact ⟨by rw [← HC.out, HG0.out]; rfl, rfl⟩

/-- Up to ahead of which level those that an edge leaves out may have any value. -/
def freeI (f : Int) (e : Edge) (l top : Int) : Int := if f = 1 ∨ f = 3 then top else if f = 5 then e.tag else l

theorem free_calls (f : Int) (e : Edge) (l top : Int) (w : World) (ht : 0 ≤ e.tag) (ht2 : e.tag ≤ 255) :
    Calls Try.prog 93 #[.int .u8 f, .agg #[.int .u8 e.tag, .int .u32 e.to], .int .i64 l, .int .i64 top] w fun r w' => r = .returned (.int .i64 (freeI f e l top)) ∧ Keeps w w' := by
  by_cases h1 : f = 1
  · subst h1
    rw [show freeI 1 e l top = top from rfl]
    go_enter Try.func93, Try.ntmps93
    go_wp2
    go_ret
    exact ⟨rfl, by (repeat (first | with_reducible exact Keeps.refl _ | with_reducible assumption | with_reducible refine Keeps.alloc ?_ _ | with_reducible refine Keeps.drewN ?_ _ | with_reducible refine Keeps.drew ?_ | refine Keeps.setCell ?_ (by dsimp only; omega) _ | with_reducible refine Keeps.trans ?_ (by assumption)))⟩
  · by_cases h3 : f = 3
    · subst h3
      rw [show freeI 3 e l top = top from rfl]
      go_enter Try.func93, Try.ntmps93
      go_wp2
      go_ret
      exact ⟨rfl, by (repeat (first | with_reducible exact Keeps.refl _ | with_reducible assumption | with_reducible refine Keeps.alloc ?_ _ | with_reducible refine Keeps.drewN ?_ _ | with_reducible refine Keeps.drew ?_ | refine Keeps.setCell ?_ (by dsimp only; omega) _ | with_reducible refine Keeps.trans ?_ (by assumption)))⟩
    · by_cases h5 : f = 5
      · subst h5
        rw [show freeI 5 e l top = e.tag from rfl]
        go_enter Try.func93, Try.ntmps93
        go_wp2
        go_ret
        exact ⟨rfl, by (repeat (first | with_reducible exact Keeps.refl _ | with_reducible assumption | with_reducible refine Keeps.alloc ?_ _ | with_reducible refine Keeps.drewN ?_ _ | with_reducible refine Keeps.drew ?_ | refine Keeps.setCell ?_ (by dsimp only; omega) _ | with_reducible refine Keeps.trans ?_ (by assumption)))⟩
      · rw [show freeI f e l top = l by unfold freeI; rw [if_neg (by omega), if_neg h5]]
        have g1 : (f == 1) = false := by simp [h1]
        have g3 : (f == 3) = false := by simp [h3]
        have g5 : (f == 5) = false := by simp [h5]
        clear h1 h3 h5
        go_enter Try.func93, Try.ntmps93
        go_wp2
        go_ret
        exact ⟨rfl, by (repeat (first | with_reducible exact Keeps.refl _ | with_reducible assumption | with_reducible refine Keeps.alloc ?_ _ | with_reducible refine Keeps.drewN ?_ _ | with_reducible refine Keeps.drew ?_ | refine Keeps.setCell ?_ (by dsimp only; omega) _ | with_reducible refine Keeps.trans ?_ (by assumption)))⟩

/-- Does an assignment go on by the 1 side? -/
def someB (x : Int) (r : Rec) : Bool := if r.form = 3 then !clearN x r.top (r.bot + 1 - r.top).toNat else bitB x r.bot

def sideE (x : Int) (r : Rec) : Edge := if someB x r then r.hi else r.lo

set_option maxRecDepth 100000 in
theorem side_calls (x : Int) (r : Rec) (w : World) (hx0 : 0 ≤ x) (hx1 : x ≤ 65535) (ht0 : 0 ≤ r.top) (ht1 : r.top ≤ 16) (hb0 : 0 ≤ r.bot) (hb1 : r.bot ≤ 16) :
    Calls Try.prog 94 #[.agg #[.int .u8 r.form, .int .u8 r.top, .int .u8 r.bot, .int .u8 r.lo.tag, .int .u32 r.lo.to, .int .u8 r.hi.tag, .int .u32 r.hi.to], .int .u16 x] w fun e w' => e = .returned (.agg #[.int .u8 (sideE x r).tag, .int .u32 (sideE x r).to]) ∧ Keeps w w' := by
  have HCL := Lib.hid (fun (W : World) => clear_calls x r.top (r.bot + 1) W hx0 hx1 ht0 (by omega))
  have hb16 := bit_u16 hx0 hx1 r.bot
  by_cases h3 : r.form = 3
  · obtain ⟨c, hc⟩ : ∃ c, c = clearN x r.top (r.bot + 1 - r.top).toNat := ⟨_, rfl⟩
    rw [← hc] at HCL
    have hs : sideE x r = if c then r.lo else r.hi := by unfold sideE someB; rw [if_pos h3, ← hc]; cases c <;> rfl
    have HS := Lib.hid hs
    obtain ⟨b, hbb⟩ : ∃ b, b = bitB x r.bot := ⟨_, rfl⟩
    rw [← hbb] at hb16
    clear hc hs hbb
    cases c
    · go_enter Try.func94, Try.ntmps94
      go_wp2_with (go_at_call 92; refine (HCL.out _).mono ?_; rintro e w1 ⟨rfl, rfl⟩)
      all_goals refine bodyPost_ret (v := .agg #[.int .u8 r.hi.tag, .int .u32 r.hi.to]) (by simp [results, Try.results94, go_sem]) rfl ⟨by rw [HS.out]; rfl, by (repeat (first | with_reducible exact Keeps.refl _ | with_reducible assumption | with_reducible refine Keeps.alloc ?_ _ | with_reducible refine Keeps.drewN ?_ _ | with_reducible refine Keeps.drew ?_ | refine Keeps.setCell ?_ (by dsimp only; omega) _ | with_reducible refine Keeps.trans ?_ (by assumption)))⟩
    · go_enter Try.func94, Try.ntmps94
      go_wp2_with (go_at_call 92; refine (HCL.out _).mono ?_; rintro e w1 ⟨rfl, rfl⟩)
      all_goals refine bodyPost_ret (v := .agg #[.int .u8 r.lo.tag, .int .u32 r.lo.to]) (by simp [results, Try.results94, go_sem]) rfl ⟨by rw [HS.out]; rfl, by (repeat (first | with_reducible exact Keeps.refl _ | with_reducible assumption | with_reducible refine Keeps.alloc ?_ _ | with_reducible refine Keeps.drewN ?_ _ | with_reducible refine Keeps.drew ?_ | refine Keeps.setCell ?_ (by dsimp only; omega) _ | with_reducible refine Keeps.trans ?_ (by assumption)))⟩
  · have g3 : (r.form == 3) = false := by simp [h3]
    obtain ⟨b, hbb⟩ : ∃ b, b = bitB x r.bot := ⟨_, rfl⟩
    have hs : sideE x r = if b then r.hi else r.lo := by unfold sideE someB; rw [if_neg h3, ← hbb]
    have HS := Lib.hid hs
    rw [← hbb] at hb16
    clear hs hbb h3 HCL
    cases b
    · go_enter Try.func94, Try.ntmps94
      go_wp2_with fail
      all_goals refine bodyPost_ret (v := .agg #[.int .u8 r.lo.tag, .int .u32 r.lo.to]) (by simp [results, Try.results94, go_sem]) rfl ⟨by rw [HS.out]; rfl, by (repeat (first | with_reducible exact Keeps.refl _ | with_reducible assumption | with_reducible refine Keeps.alloc ?_ _ | with_reducible refine Keeps.drewN ?_ _ | with_reducible refine Keeps.drew ?_ | refine Keeps.setCell ?_ (by dsimp only; omega) _ | with_reducible refine Keeps.trans ?_ (by assumption)))⟩
    · go_enter Try.func94, Try.ntmps94
      go_wp2_with fail
      all_goals refine bodyPost_ret (v := .agg #[.int .u8 r.hi.tag, .int .u32 r.hi.to]) (by simp [results, Try.results94, go_sem]) rfl ⟨by rw [HS.out]; rfl, by (repeat (first | with_reducible exact Keeps.refl _ | with_reducible assumption | with_reducible refine Keeps.alloc ?_ _ | with_reducible refine Keeps.drewN ?_ _ | with_reducible refine Keeps.drew ?_ | refine Keeps.setCell ?_ (by dsimp only; omega) _ | with_reducible refine Keeps.trans ?_ (by assumption)))⟩

end Go.Proofs.Ytnkehgohamjpaaa
