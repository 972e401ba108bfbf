/-
  What an assignment has at levels: Value, clear, free, side; may.
-/
import Derived.Test.YtiacdpoldgfpbaaPCube
import Derived.Test.YtiacdpoldgfpbaaPHPlainA
namespace Go.Proofs.Ytiacdpoldgfpbaa
set_option linter.unusedSimpArgs false
set_option linter.unusedVariables false
set_option maxHeartbeats 600000
open Go.RowKit

theorem and_one_u16 (E : Int) (h0 : 0 ≤ E) (h1 : E ≤ 65535) : bits BinOp.and IntKind.u16 E 1 = E % 2 := by
  obtain ⟨a, rfl⟩ : ∃ a : Nat, E = (a : Int) := ⟨E.toNat, by omega⟩
  have hx : a &&& 1 < 2 ^ 16 := Nat.and_lt_two_pow _ (by omega)
  have hx2 : a &&& 1 = a % 2 := Nat.and_one_is_mod a
  have h1 : (BitVec.ofInt 16 (a : Int)).toNat = a := by
    rw [BitVec.ofInt_natCast, BitVec.toNat_ofNat]; exact Nat.mod_eq_of_lt (by omega)
  have h2 : (BitVec.ofInt 16 ((1 : Nat) : Int)).toNat = 1 := by
    rw [BitVec.ofInt_natCast, BitVec.toNat_ofNat]
  show IntKind.u16.wrap ((BitVec.ofInt 16 (a : Int) &&& BitVec.ofInt 16 ((1 : Nat) : Int)).toNat : Int) = _
  rw [BitVec.toNat_and, h1, h2, IntKind.wrap_u16]
  omega

def bitB (x k : Int) : Bool := decide (x / 2 ^ k.toNat % 2 = 1)

theorem shr_range {x : Int} (h0 : 0 ≤ x) (h1 : x ≤ 65535) (k : Nat) : 0 ≤ x / 2 ^ k ∧ x / 2 ^ k ≤ 65535 := by
  have hp : (0 : Int) < 2 ^ k := Int.pow_pos (by decide)
  refine ⟨Int.ediv_nonneg h0 (by omega), ?_⟩
  have := Int.ediv_le_self (2 ^ k : Int) h0
  omega

theorem bit_u16 {x : Int} (h0 : 0 ≤ x) (h1 : x ≤ 65535) (k : Int) : (bits BinOp.and IntKind.u16 (x / 2 ^ k.toNat) 1 == 1) = bitB x k := by
  obtain ⟨a, b⟩ := shr_range h0 h1 k.toNat
  rw [and_one_u16 _ a b]
  unfold bitB
  by_cases h : x / 2 ^ k.toNat % 2 = 1
  · rw [decide_eq_true h, h]; rfl
  · rw [decide_eq_false h]; simpa using h

def clearN (x a : Int) : Nat → Bool
  | 0 => true
  | n + 1 => !bitB x a && clearN x (a + 1) n

set_option maxRecDepth 100000 in
theorem clear_calls (x a b : Int) (w : World) (hx0 : 0 ≤ x) (hx1 : x ≤ 65535) (ha : 0 ≤ a) (hb2 : b ≤ 17) :
    Calls Try.prog 90 #[.int .u16 x, .int .i64 a, .int .i64 b] w fun e w' => e = .returned (.bool (clearN x a (b - a).toNat)) ∧ w = w' := by
  obtain ⟨N, hN⟩ : ∃ N, N = (b - a).toNat := ⟨_, rfl⟩
  rw [← hN]
  have HN := Lib.hid hN
  clear hN
  go_enter Try.func90, Try.ntmps90
  go_wp2
  go_loopg [7] N (fun gk s7 wr => ∃ k : Int, s7 = .int .i64 k ∧ a ≤ k ∧ (k ≤ b ∨ k = a) ∧ gk = (b - k).toNat ∧ clearN x k gk = clearN x a N ∧ w = wr)
  case atStart => exact ⟨a, rfl, Int.le_refl _, .inr rfl, HN.out, rfl, rfl⟩
  case round =>
    obtain ⟨k, rfl, hk0, hk1, hgk, hcl, rfl⟩ := hrel
    have HC := Lib.hid hcl
    have HG := Lib.hid hgk
    clear hcl hgk
    have k0 : 0 ≤ k := by omega
    by_cases hlt : k < b
    · obtain ⟨g, rfl⟩ : ∃ g, gk = g + 1 := ⟨gk - 1, by have := HG.out; omega⟩
      have hg2 : g = (b - (k + 1)).toNat := by have := HG.out; omega
      have HG2 := Lib.hid hg2
      have hcs : clearN x k (g + 1) = (!bitB x k && clearN x (k + 1) g) := rfl
      have HCS := Lib.hid hcs
      clear hg2 hcs
      rcases bool_cases (bitB x k) with hbit | hbit
      · have hb16 := bit_u16 hx0 hx1 k
        rw [hbit] at hb16
        have HBIT := Lib.hid hbit
        clear hbit
        go_wp2_with fail
        go_roundg g
        case rel => exact ⟨k + 1, rfl, by omega, by omega, HG2.out, by rw [← HC.out, HCS.out, HBIT.out]; rfl, rfl⟩
        case measure => omega
      · have hb16 := bit_u16 hx0 hx1 k
        rw [hbit] at hb16
        have HBIT := Lib.hid hbit
        clear hbit
        go_wp2_with fail
        go_ret
        exact ⟨by rw [← HC.out, HCS.out, HBIT.out]; rfl, rfl⟩
    · have hg0 : gk = 0 := by have := HG.out; omega
      have HG0 := Lib.hid hg0
      clear hg0
      go_wp2_with fail
      go_ret
      exact ⟨by rw [← HC.out, HG0.out]; rfl, rfl⟩

def freeI (f : Int) (e : Edge) (l top : Int) : Int := if f = 1 ∨ f = 3 then top else if f = 5 then e.tag else l

theorem free_calls (f : Int) (e : Edge) (l top : Int) (w : World) (ht : 0 ≤ e.tag) (ht2 : e.tag ≤ 255) :
    Calls Try.prog 91 #[.int .u8 f, .agg #[.int .u8 e.tag, .int .u32 e.to], .int .i64 l, .int .i64 top] w fun r w' => r = .returned (.int .i64 (freeI f e l top)) ∧ Keeps w w' := by
  by_cases h1 : f = 1
  · subst h1
    rw [show freeI 1 e l top = top from rfl]
    go_enter Try.func91, Try.ntmps91
    go_wp2
    go_ret
    exact ⟨rfl, by (exact kp)⟩
  · by_cases h3 : f = 3
    · subst h3
      rw [show freeI 3 e l top = top from rfl]
      go_enter Try.func91, Try.ntmps91
      go_wp2
      go_ret
      exact ⟨rfl, by (exact kp)⟩
    · by_cases h5 : f = 5
      · subst h5
        rw [show freeI 5 e l top = e.tag from rfl]
        go_enter Try.func91, Try.ntmps91
        go_wp2
        go_ret
        exact ⟨rfl, by (exact kp)⟩
      · rw [show freeI f e l top = l by unfold freeI; rw [if_neg (by omega), if_neg h5]]
        have g1 : (f == 1) = false := by simp [h1]
        have g3 : (f == 3) = false := by simp [h3]
        have g5 : (f == 5) = false := by simp [h5]
        clear h1 h3 h5
        go_enter Try.func91, Try.ntmps91
        go_wp2
        go_ret
        exact ⟨rfl, by (exact kp)⟩

def someB (x : Int) (r : Rec) : Bool := if r.form = 3 then !clearN x r.top (r.bot + 1 - r.top).toNat else bitB x r.bot

def sideE (x : Int) (r : Rec) : Edge := if someB x r then r.hi else r.lo

set_option maxRecDepth 100000 in
theorem side_calls (x : Int) (r : Rec) (w : World) (hx0 : 0 ≤ x) (hx1 : x ≤ 65535) (ht0 : 0 ≤ r.top) (ht1 : r.top ≤ 16) (hb0 : 0 ≤ r.bot) (hb1 : r.bot ≤ 16) :
    Calls Try.prog 92 #[.agg #[.int .u8 r.form, .int .u8 r.top, .int .u8 r.bot, .int .u8 r.lo.tag, .int .u32 r.lo.to, .int .u8 r.hi.tag, .int .u32 r.hi.to], .int .u16 x] w fun e w' => e = .returned (.agg #[.int .u8 (sideE x r).tag, .int .u32 (sideE x r).to]) ∧ Keeps w w' := by
  have HCL := Lib.hid (fun (W : World) => clear_calls x r.top (r.bot + 1) W hx0 hx1 ht0 (by omega))
  have hb16 := bit_u16 hx0 hx1 r.bot
  by_cases h3 : r.form = 3
  · obtain ⟨c, hc⟩ : ∃ c, c = clearN x r.top (r.bot + 1 - r.top).toNat := ⟨_, rfl⟩
    rw [← hc] at HCL
    have hs : sideE x r = if c then r.lo else r.hi := by unfold sideE someB; rw [if_pos h3, ← hc]; cases c <;> rfl
    have HS := Lib.hid hs
    obtain ⟨b, hbb⟩ : ∃ b, b = bitB x r.bot := ⟨_, rfl⟩
    rw [← hbb] at hb16
    clear hc hs hbb
    cases c
    · go_enter Try.func92, Try.ntmps92
      go_wp2_with (go_at_call 90; refine (HCL.out _).mono ?_; rintro e w1 ⟨rfl, rfl⟩)
      all_goals refine bodyPost_ret (v := .agg #[.int .u8 r.hi.tag, .int .u32 r.hi.to]) (by simp [results, Try.results92, go_sem]) rfl ⟨by rw [HS.out]; rfl, by (exact kp)⟩
    · go_enter Try.func92, Try.ntmps92
      go_wp2_with (go_at_call 90; refine (HCL.out _).mono ?_; rintro e w1 ⟨rfl, rfl⟩)
      all_goals refine bodyPost_ret (v := .agg #[.int .u8 r.lo.tag, .int .u32 r.lo.to]) (by simp [results, Try.results92, go_sem]) rfl ⟨by rw [HS.out]; rfl, by (exact kp)⟩
  · have g3 : (r.form == 3) = false := by simp [h3]
    obtain ⟨b, hbb⟩ : ∃ b, b = bitB x r.bot := ⟨_, rfl⟩
    have hs : sideE x r = if b then r.hi else r.lo := by unfold sideE someB; rw [if_neg h3, ← hbb]
    have HS := Lib.hid hs
    rw [← hbb] at hb16
    clear hs hbb h3 HCL
    cases b
    · go_enter Try.func92, Try.ntmps92
      go_wp2_with fail
      all_goals refine bodyPost_ret (v := .agg #[.int .u8 r.lo.tag, .int .u32 r.lo.to]) (by simp [results, Try.results92, go_sem]) rfl ⟨by rw [HS.out]; rfl, by (exact kp)⟩
    · go_enter Try.func92, Try.ntmps92
      go_wp2_with fail
      all_goals refine bodyPost_ret (v := .agg #[.int .u8 r.hi.tag, .int .u32 r.hi.to]) (by simp [results, Try.results92, go_sem]) rfl ⟨by rw [HS.out]; rfl, by (exact kp)⟩

end Go.Proofs.Ytiacdpoldgfpbaa

namespace Go.Proofs.Ytiacdpoldgfpbaa
set_option linter.unusedSimpArgs false
set_option linter.unusedVariables false
set_option maxHeartbeats 600000
open Go.RowKit

def zeroAt (f : Int) (e : Edge) (l : Int) : Bool := decide (f = 2) || decide (f = 4) || (decide (f = 5) && decide (e.tag ≤ l))

def hS (M : St) (f x : Int) : Nat → Int → Edge → Bool
  | 0, _, e => decide (e.to ≠ 0)
  | k + 1, l, e => if e.to = 0 then false else if M.n ≤ l then true else match look M.cs e.to with
    | none => if zeroAt f e l && bitB x l then false else hS M f x k (l + 1) e
    | some r => if l < r.top then (if zeroAt f e l && bitB x l then false else hS M f x k (l + 1) e) else hS M f x k (r.bot + 1) (sideE x r)

def fromI (f : Int) (e : Edge) (l top : Int) : Int := if f = 1 ∨ f = 3 then top else if f = 5 then max l e.tag else l

theorem from_step {f x : Int} {e : Edge} {l top : Int} (hf : 1 ≤ f ∧ f ≤ 5) (hl : l < top) (ht : f = 5 → e.tag ≤ top) :
    clearN x (fromI f e l top) (top - fromI f e l top).toNat = (if zeroAt f e l && bitB x l then false else clearN x (fromI f e (l + 1) top) (top - fromI f e (l + 1) top).toNat) := by
  have succ : ∀ a b : Int, (top - l).toNat = (top - (l + 1)).toNat + 1 := fun _ _ => by omega
  have hs : clearN x l (top - l).toNat = (!bitB x l && clearN x (l + 1) (top - (l + 1)).toNat) := by rw [succ 0 0]; rfl
  by_cases h13 : f = 1 ∨ f = 3
  · have hz : zeroAt f e l = false := by unfold zeroAt; rcases h13 with rfl | rfl <;> rfl
    unfold fromI
    rw [hz, if_pos h13, if_pos h13]
    rfl
  · by_cases h5 : f = 5
    · subst h5
      unfold fromI
      rw [if_neg h13, if_neg h13, if_pos rfl, if_pos rfl]
      by_cases hlt : e.tag ≤ l
      · have hz : zeroAt 5 e l = true := by unfold zeroAt; rw [decide_eq_true hlt]; rfl
        rw [hz, show max l e.tag = l by omega, show max (l + 1) e.tag = l + 1 by omega, hs]
        cases bitB x l <;> rfl
      · have hz : zeroAt 5 e l = false := by unfold zeroAt; rw [decide_eq_false hlt]; rfl
        rw [hz, show max l e.tag = e.tag by omega, show max (l + 1) e.tag = e.tag by omega]
        rfl
    · have hz : zeroAt f e l = true := by
        unfold zeroAt
        have : f = 2 ∨ f = 4 := by omega
        rcases this with rfl | rfl <;> rfl
      unfold fromI
      rw [hz, if_neg h13, if_neg h13, if_neg h5, if_neg h5, hs]
      cases bitB x l <;> rfl

theorem from_end {f x : Int} {e : Edge} {top : Int} (hf : 1 ≤ f ∧ f ≤ 5) (ht : f = 5 → e.tag ≤ top) : clearN x (fromI f e top top) (top - fromI f e top top).toNat = true := by
  have : fromI f e top top = top := by
    unfold fromI
    split
    · rfl
    · split
      · have := ht (by assumption); omega
      · rfl
  rw [this, show (top - top).toNat = 0 by omega]
  rfl

theorem jump_none {M : St} {f x : Int} {e : Edge} (hf : 1 ≤ f ∧ f ≤ 5) (hz : e.to ≠ 0) (hk : look M.cs e.to = none) (ht : f = 5 → e.tag ≤ M.n) : ∀ (K : Nat) (l : Int), l ≤ M.n → M.n - l ≤ (K : Int) → hS M f x K l e = clearN x (fromI f e l M.n) (M.n - fromI f e l M.n).toNat := by
  intro K
  induction K with
  | zero =>
    intro l h1 h2
    have e1 : l = M.n := by omega
    subst e1
    rw [from_end hf ht]
    exact decide_eq_true hz
  | succ K ih =>
    intro l h1 h2
    by_cases hl : M.n ≤ l
    · have e1 : l = M.n := by omega
      subst e1
      rw [from_end hf ht]
      show (if e.to = 0 then false else if M.n ≤ M.n then true else _) = true
      rw [if_neg hz, if_pos (Int.le_refl _)]
    · rw [from_step hf (by omega) ht]
      show (if e.to = 0 then false else if M.n ≤ l then true else match look M.cs e.to with | none => _ | some r => _) = _
      rw [if_neg hz, if_neg hl, hk]
      simp only []
      rw [ih (l + 1) (by omega) (by push_cast at h2; omega)]

theorem jump_some {M : St} {f x : Int} {e : Edge} {r : Rec} (hf : 1 ≤ f ∧ f ≤ 5) (hz : e.to ≠ 0) (hk : look M.cs e.to = some r) (ht : f = 5 → e.tag ≤ r.top) (hb : r.top ≤ r.bot) (hn : r.bot < M.n) : ∀ (K : Nat) (l : Int), l ≤ r.top → M.n - l ≤ (K : Int) →
    ∃ K' : Nat, M.n - (r.bot + 1) ≤ (K' : Int) ∧ hS M f x K l e = (clearN x (fromI f e l r.top) (r.top - fromI f e l r.top).toNat && hS M f x K' (r.bot + 1) (sideE x r)) := by
  intro K
  induction K with
  | zero => intro l h1 h2; omega
  | succ K ih =>
    intro l h1 h2
    have e1 : hS M f x (K + 1) l e = (if l < r.top then (if zeroAt f e l && bitB x l then false else hS M f x K (l + 1) e) else hS M f x K (r.bot + 1) (sideE x r)) := by
      show (if e.to = 0 then false else if M.n ≤ l then true else match look M.cs e.to with | none => _ | some r => _) = _
      rw [if_neg hz, if_neg (by omega), hk]
    by_cases hl : l < r.top
    · obtain ⟨K', k1, k2⟩ := ih (l + 1) (by omega) (by push_cast at h2; omega)
      refine ⟨K', k1, ?_⟩
      rw [e1, if_pos hl, from_step hf hl ht, k2]
      cases (zeroAt f e l && bitB x l) <;> rfl
    · have e2 : l = r.top := by omega
      refine ⟨K, by push_cast at h2; omega, ?_⟩
      rw [e1, if_neg hl, e2, from_end hf ht]
      rfl

theorem free_from {M : St} {f : Int} {e : Edge} {l top : Int} (h : M.leads f e l = true) (hz : e.to ≠ 0) : freeI f e l top = fromI f e l top := by
  obtain ⟨p1, p2, p3, p4, p5, p6, p7, p8⟩ := plainB_iff.1 (leads_iff.1 h).1
  unfold freeI fromI
  split
  · rfl
  · split
    · have := p8 (by assumption) hz
      omega
    · rfl

def mayC (M : St) (f : Int) (e : Edge) (l : Int) : Int := if isFormB f = false then 4 else if l < 0 ∨ M.n < l then 3 else if M.leads f e l = false then 1 else 0

theorem mayC_range (M : St) (f : Int) (e : Edge) (l : Int) : 0 ≤ mayC M f e l ∧ mayC M f e l ≤ 4 := by
  unfold mayC
  split
  · decide
  · split
    · decide
    · split <;> decide

theorem side_leads {M : St} (h : M.wf) {id x : Int} {r : Rec} (hl : look M.cs id = some r) : M.leads r.form (sideE x r) (r.bot + 1) = true := by
  have g := h.goodRec hl
  unfold sideE
  split
  · exact g.hi
  · exact g.lo

end Go.Proofs.Ytiacdpoldgfpbaa

namespace Go.Proofs.Ytiacdpoldgfpbaa
set_option linter.unusedSimpArgs false
set_option linter.unusedVariables false
set_option maxHeartbeats 600000
open Go.RowKit

theorem may_calls' {F : Nat → Prop} {w : World} {sb : Nat} {M : St} (h : StoreRep F w sb M) (f : Int) (v : Edge) (l : Int) (hv : v.ok) :
    Calls Try.prog 77 #[.pointer (some ⟨sb, 0, none⟩), .int .u8 f, .agg #[.int .u8 v.tag, .int .u32 v.to], .int .i64 l] w fun r w' => r = .returned (.int .u8 (mayC M f v l)) ∧ Keeps w w' := by
  have HV := Lib.hid (fun (W : World) (hW : Keeps w W) => store_vars (h.keeps hW))
  have hld := fun (W : World) (hW : Keeps w W) => store_leads (h.keeps hW) f v l hv
  have hfc := isForm_calls f
  rcases bool_cases (isFormB f) with hb | hb
  · have e : mayC M f v l = 4 := by unfold mayC; rw [if_pos hb]
    rw [e]
    rw [hb] at hfc
    have HFC := Lib.hid hfc
    clear h hld hfc hb e
    go_enter Try.func77, Try.ntmps77
    go_wp2_with (first | (go_at_call 86; refine (HFC.out _).mono ?_; rintro e w' ⟨rfl, rfl⟩) | fail)
    go_ret
    exact ⟨rfl, by (exact kp)⟩
  · rw [hb] at hfc
    have HFC := Lib.hid hfc
    clear hfc
    by_cases c1 : l < 0 ∨ M.n < l
    · have e : mayC M f v l = 3 := by unfold mayC; rw [if_neg (by rw [hb]; simp), if_pos c1]
      rw [e]
      clear h hld hb e
      by_cases c0 : l < 0
      · go_enter Try.func77, Try.ntmps77
        go_wp2_with (first | (go_at_call 86; refine (HFC.out _).mono ?_; rintro e w' ⟨rfl, rfl⟩) | (go_at_call 50; refine (HV.out _ (by (exact kp))).mono ?_; rintro e w' ⟨rfl, rfl⟩) | fail)
        all_goals go_ret
        all_goals exact ⟨rfl, by (exact kp)⟩
      · have c2 : M.n < l := by omega
        go_enter Try.func77, Try.ntmps77
        go_wp2_with (first | (go_at_call 86; refine (HFC.out _).mono ?_; rintro e w' ⟨rfl, rfl⟩) | (go_at_call 50; refine (HV.out _ (by (exact kp))).mono ?_; rintro e w' ⟨rfl, rfl⟩) | fail)
        all_goals go_ret
        all_goals exact ⟨rfl, by (exact kp)⟩
    · have d0 : ¬ l < 0 := by omega
      have d1 : ¬ M.n < l := by omega
      rcases bool_cases (M.leads f v l) with hb2 | hb2
      · have e : mayC M f v l = 1 := by unfold mayC; rw [if_neg (by rw [hb]; simp), if_neg c1, if_pos hb2]
        rw [e]
        rw [hb2] at hld
        have HLD := Lib.hid hld
        clear h hld hb e c1 hb2
        go_enter Try.func77, Try.ntmps77
        go_wp2_with (first | (go_at_call 86; refine (HFC.out _).mono ?_; rintro e w' ⟨rfl, rfl⟩) | (go_at_call 50; refine (HV.out _ (by (exact kp))).mono ?_; rintro e w' ⟨rfl, rfl⟩) | (go_at_call 49; refine (HLD.out _ (by (exact kp))).mono ?_; rintro e w1 ⟨rfl, hk⟩) | fail)
        all_goals go_ret
        all_goals exact ⟨rfl, by (exact kp)⟩
      · have e : mayC M f v l = 0 := by unfold mayC; rw [if_neg (by rw [hb]; simp), if_neg c1, if_neg (by rw [hb2]; simp)]
        rw [e]
        rw [hb2] at hld
        have HLD := Lib.hid hld
        clear h hld hb e c1 hb2
        go_enter Try.func77, Try.ntmps77
        go_wp2_with (first | (go_at_call 86; refine (HFC.out _).mono ?_; rintro e w' ⟨rfl, rfl⟩) | (go_at_call 50; refine (HV.out _ (by (exact kp))).mono ?_; rintro e w' ⟨rfl, rfl⟩) | (go_at_call 49; refine (HLD.out _ (by (exact kp))).mono ?_; rintro e w1 ⟨rfl, hk⟩) | fail)
        all_goals go_ret
        all_goals exact ⟨rfl, by (exact kp)⟩

end Go.Proofs.Ytiacdpoldgfpbaa

namespace Go.Proofs.Ytiacdpoldgfpbaa
set_option linter.unusedSimpArgs false
set_option linter.unusedVariables false
set_option maxHeartbeats 600000
open Go.RowKit

set_option maxRecDepth 100000 in
set_option maxHeartbeats 2000000 in
theorem holds_calls {F : Nat → Prop} {w : World} {sb : Nat} {M : St} (h : StoreRep F w sb M) (f : Int) (v : Edge) (l x : Int) (hv : v.ok) (hx0 : 0 ≤ x) (hx1 : x ≤ 65535) :
    Calls Try.prog 51 #[.pointer (some ⟨sb, 0, none⟩), .int .u8 f, .agg #[.int .u8 v.tag, .int .u32 v.to], .int .i64 l, .int .u16 x] w fun r w' => r = .returned (.tuple #[.bool (decide (mayC M f v l = 0) && hS M f x (M.n - l).toNat l v), .int .u8 (mayC M f v l)]) ∧ Keeps w w' := by
  have hmay := fun (W : World) (hW : Keeps w W) => may_calls' (h.keeps hW) f v l hv
  have hr := mayC_range M f v l
  by_cases c0 : mayC M f v l = 0
  · have hfb : isFormB f = true := by
      cases hb : isFormB f with
      | true => rfl
      | false => unfold mayC at c0; rw [if_pos hb] at c0; cases c0
    have hl01 : ¬ (l < 0 ∨ M.n < l) := by
      intro hh
      unfold mayC at c0
      rw [if_neg (by rw [hfb]; simp), if_pos hh] at c0
      cases c0
    have hlead : M.leads f v l = true := by
      cases hb : M.leads f v l with
      | true => rfl
      | false => unfold mayC at c0; rw [if_neg (by rw [hfb]; simp), if_neg hl01, if_pos hb] at c0; cases c0
    have hf15 : 1 ≤ f ∧ f ≤ 5 := by unfold isFormB at hfb; simpa using hfb
    rw [c0] at hmay ⊢
    rw [show (decide ((0 : Int) = 0) && hS M f x (M.n - l).toNat l v) = hS M f x (M.n - l).toNat l v from rfl]
    have HM := Lib.hid hmay
    have HREP := Lib.hid h
    have HG := Lib.hid (fun (W : World) (hW : Keeps w W) (id : Int) (hid : id ≤ 4294967295) => store_get (h.keeps hW) id hid)
    have HV := Lib.hid (fun (W : World) (hW : Keeps w W) => store_vars (h.keeps hW))
    have HWF := Lib.hid h.wf
    have n16 := h.wf.n16
    have n0 := h.wf.n0
    have HL := Lib.hid hlead
    have HF15 := Lib.hid hf15
    clear h hmay hr c0 hfb hlead hf15
    go_enter Try.func51, Try.ntmps51
    go_wp2_with (first | (go_at_call 77; refine (HM.out _ (by (exact kp))).mono ?_; rintro e w1 ⟨rfl, hk⟩; have z0 : w1.cell? ⟨w.heap.size, 0, none⟩ = some (.int .u8 v.tag) := hk.cell (by simp); have z1 : w1.cell? ⟨w.heap.size, 1, none⟩ = some (.int .u32 v.to) := hk.cell (by simp); have zf := (fun o : Nat => hk.frz (a := ⟨w.heap.size, o, none⟩) (by simp) (by simp [go_sem])); have hk1 : Keeps w w1 := (by (exact kp))) | fail)
    have HZ := Lib.hid zf
    have HK1 := Lib.hid hk1
    have hlt1 : w.heap.size < w1.heap.size := by have := hk.size; simp only [World.size_alloc] at this; omega
    clear zf hk1 hk
    go_loopg [3] ((M.n - l).toNat + 1) (fun gk s3 wr => ∃ (q : Int) (e : Edge) (K : Nat), s3 = .int .i64 q ∧ 0 ≤ q ∧ q ≤ M.n ∧ gk = (M.n - q).toNat + 1 ∧ M.n - q ≤ (K : Int) ∧ e.ok ∧ M.leads f e q = true ∧ hS M f x K q e = hS M f x (M.n - l).toNat l v ∧
      wr.cell? ⟨w.heap.size, 0, none⟩ = some (.int .u8 e.tag) ∧ wr.cell? ⟨w.heap.size, 1, none⟩ = some (.int .u32 e.to) ∧ (∀ o : Nat, wr.frozen? ⟨w.heap.size, o, none⟩ = false) ∧ w.heap.size < wr.heap.size ∧ Keeps w wr)
    case atStart => exact ⟨l, v, (M.n - l).toNat, rfl, by omega, by omega, rfl, by omega, hv, HL.out, rfl, z0, z1, HZ.out, hlt1, HK1.out⟩
    case round =>
      obtain ⟨q, e, K, rfl, hq0, hq1, hgk, hK, heo, hle, hs, y0, y1, yf, hlw, hk⟩ := hrel
      have HGK := Lib.hid hgk
      have HS := Lib.hid hs
      have HKr := Lib.hid hk
      have HLE := Lib.hid hle
      have HYF := Lib.hid yf
      have HEO := Lib.hid heo
      have to1 := heo.2.2
      have to0 := heo.2.1
      clear hgk hs hk hle yf heo
      by_cases hz : e.to = 0
      · have hres : hS M f x (M.n - l).toNat l v = false := by
          rw [← HS.out]
          cases K with
          | zero => exact decide_eq_false (fun hh => hh hz)
          | succ K => show (if e.to = 0 then false else _) = false; rw [if_pos hz]
        have HRES := Lib.hid hres
        clear hres
        go_wp2_with fail
        go_ret2
        exact ⟨by rw [HRES.out]; rfl, HKr.out⟩
      · 
        have hp : 0 < e.to := by omega
        cases hlk : look M.cs e.to with
        | none =>
          have hj := jump_none (x := x) HF15.out hz hlk (fun h5 => ((plainB_iff.1 (leads_iff.1 HLE.out).1).2.2.2.2.2.2.2 h5 hz).2) K q hq1 hK
          rw [← free_from HLE.out hz, HS.out] at hj
          have hg : ∀ W, Keeps w W → Calls Try.prog 46 #[.pointer (some ⟨sb, 0, none⟩), .int .u32 e.to] W fun r w' => r = .returned (.tuple #[.agg #[.int .u8 Rec.zero.form, .int .u8 Rec.zero.top, .int .u8 Rec.zero.bot, .int .u8 Rec.zero.lo.tag, .int .u32 Rec.zero.lo.to, .int .u8 Rec.zero.hi.tag, .int .u32 Rec.zero.hi.to], .bool false]) ∧ Keeps W w' := fun W hW => by have := HG.out W hW e.to to1; rw [hlk] at this; exact this
          have hfr0 : 0 ≤ freeI f e q M.n := by unfold freeI; split; exact n0; split; exact HEO.out.1.1; exact hq0
          obtain ⟨fr, hfr⟩ : ∃ fr, fr = freeI f e q M.n := ⟨_, rfl⟩
          have hfc : ∀ W, Calls Try.prog 91 #[.int .u8 f, .agg #[.int .u8 e.tag, .int .u32 e.to], .int .i64 q, .int .i64 M.n] W fun r w' => r = .returned (.int .i64 fr) ∧ Keeps W w' := fun W => by rw [hfr]; exact free_calls f e q M.n W HEO.out.1.1 HEO.out.1.2
          rw [← hfr] at hj hfr0
          have hcl := fun (W : World) => clear_calls x fr M.n W hx0 hx1 hfr0 (by omega)
          obtain ⟨c, hc⟩ : ∃ c, c = clearN x fr (M.n - fr).toNat := ⟨_, rfl⟩
          rw [← hc] at hj hcl
          have HGN := Lib.hid hg
          have HFR := Lib.hid hfc
          have HCL := Lib.hid hcl
          have HJ := Lib.hid hj
          clear hg hfc hcl hj hlk hc hfr hfr0 hK
          have yf0 := HYF.out
          rcases bool_cases c with hcb | hcb
          · subst hcb
            go_wp2_with (first | (go_at_call 46; refine (HGN.out _ HKr.out).mono ?_; rintro e2 w2 ⟨rfl, hg2⟩; have y0b := hg2.cell y0; have y1b := hg2.cell y1; have hlw2 : w.heap.size < w2.heap.size := (by have := hg2.size; omega); have hk2 := HKr.out.trans hg2) | (go_at_call 50; refine (HV.out _ (by (exact kp))).mono ?_; rintro e3 w3 ⟨rfl, rfl⟩) | (go_at_call 91; refine (HFR.out _).mono ?_; rintro e4 w4 ⟨rfl, hg4⟩) | (go_at_call 90; refine (HCL.out _).mono ?_; rintro e5 w5 ⟨rfl, rfl⟩) | fail)
            go_ret2
            exact ⟨by rw [HJ.out]; rfl, by (exact kp)⟩
          · subst hcb
            go_wp2_with (first | (go_at_call 46; refine (HGN.out _ HKr.out).mono ?_; rintro e2 w2 ⟨rfl, hg2⟩; have y0b := hg2.cell y0; have y1b := hg2.cell y1; have hlw2 : w.heap.size < w2.heap.size := (by have := hg2.size; omega); have hk2 := HKr.out.trans hg2) | (go_at_call 50; refine (HV.out _ (by (exact kp))).mono ?_; rintro e3 w3 ⟨rfl, rfl⟩) | (go_at_call 91; refine (HFR.out _).mono ?_; rintro e4 w4 ⟨rfl, hg4⟩) | (go_at_call 90; refine (HCL.out _).mono ?_; rintro e5 w5 ⟨rfl, rfl⟩) | fail)
            go_ret2
            exact ⟨by rw [HJ.out]; rfl, by (exact kp)⟩
        | some r =>
          obtain ⟨lf, lt, lg⟩ := leads_some HLE.out hlk
          have gr := HWF.out.goodRec hlk
          have rok : r.ok := by have := HREP.out.grec e.to; rw [hlk] at this; exact this
          have tb := gr.tb
          have bn := gr.bn
          obtain ⟨K', k1, k2⟩ := jump_some (x := x) HF15.out hz hlk (fun _ => lg) tb bn K q lt hK
          rw [← free_from HLE.out hz, HS.out] at k2
          have hg : ∀ W, Keeps w W → Calls Try.prog 46 #[.pointer (some ⟨sb, 0, none⟩), .int .u32 e.to] W fun r2 w' => r2 = .returned (.tuple #[.agg #[.int .u8 r.form, .int .u8 r.top, .int .u8 r.bot, .int .u8 r.lo.tag, .int .u32 r.lo.to, .int .u8 r.hi.tag, .int .u32 r.hi.to], .bool true]) ∧ Keeps W w' := fun W hW => by have := HG.out W hW e.to to1; rw [hlk] at this; exact this
          have hfr0 : 0 ≤ freeI f e q r.top := by unfold freeI; split; omega; split; exact HEO.out.1.1; exact hq0
          obtain ⟨fr, hfr⟩ : ∃ fr, fr = freeI f e q r.top := ⟨_, rfl⟩
          have hfc : ∀ W, Calls Try.prog 91 #[.int .u8 f, .agg #[.int .u8 e.tag, .int .u32 e.to], .int .i64 q, .int .i64 r.top] W fun r w' => r = .returned (.int .i64 fr) ∧ Keeps W w' := fun W => by rw [hfr]; exact free_calls f e q r.top W HEO.out.1.1 HEO.out.1.2
          rw [← hfr] at k2 hfr0
          have hcl := fun (W : World) => clear_calls x fr r.top W hx0 hx1 hfr0 (by omega)
          obtain ⟨c, hc⟩ : ∃ c, c = clearN x fr (r.top - fr).toNat := ⟨_, rfl⟩
          rw [← hc] at k2 hcl
          have rt := rok.top
          have rb := rok.bot
          have hsd := fun (W : World) => side_calls x r W hx0 hx1 rt.1 (by omega) rb.1 (by omega)
          have hsl := side_leads (x := x) HWF.out hlk
          rw [lf] at hsl
          have hsok : (sideE x r).ok := by unfold sideE; split; exact rok.hi; exact rok.lo
          obtain ⟨sd, hsd2⟩ : ∃ sd, sd = sideE x r := ⟨_, rfl⟩
          rw [← hsd2] at hsd hsl hsok k2
          have HGN := Lib.hid hg
          have HFR := Lib.hid hfc
          have HCL := Lib.hid hcl
          have HJ := Lib.hid k2
          have HSD := Lib.hid hsd
          have HSL := Lib.hid hsl
          have HSO := Lib.hid hsok
          have HK1' := Lib.hid k1
          clear hg hfc hcl k2 hlk hc hfr hfr0 hK gr rok hsd hsl hsok hsd2 lf lg k1
          have yf0 := HYF.out
          rcases bool_cases c with hcb | hcb
          · subst hcb
            go_wp2_with (first | (go_at_call 46; refine (HGN.out _ HKr.out).mono ?_; rintro e2 w2 ⟨rfl, hg2⟩; have y0b := hg2.cell y0; have y1b := hg2.cell y1; have hlw2 : w.heap.size < w2.heap.size := (by have := hg2.size; omega); have hk2 := HKr.out.trans hg2; have yf2 := (fun o : Nat => hg2.frz (a := ⟨w.heap.size, o, none⟩) hlw (yf0 o))) | (go_at_call 50; refine (HV.out _ (by (exact kp))).mono ?_; rintro e3 w3 ⟨rfl, rfl⟩) | (go_at_call 91; refine (HFR.out _).mono ?_; rintro e4 w4 ⟨rfl, hg4⟩; obtain ⟨b0, b1, b2, b3, b4, b5, b6⟩ := box7 hg4) | (go_at_call 90; refine (HCL.out _).mono ?_; rintro e5 w5 ⟨rfl, rfl⟩) | fail)
            go_ret2
            exact ⟨by rw [HJ.out]; rfl, by (exact kp)⟩
          · subst hcb
            go_wp2_with (first | (go_at_call 46; refine (HGN.out _ HKr.out).mono ?_; rintro e2 w2 ⟨rfl, hg2⟩; have y0b := hg2.cell y0; have y1b := hg2.cell y1; have hlw2 : w.heap.size < w2.heap.size := (by have := hg2.size; omega); have hk2 := HKr.out.trans hg2; have yf2 := (fun o : Nat => hg2.frz (a := ⟨w.heap.size, o, none⟩) hlw (yf0 o))) | (go_at_call 50; refine (HV.out _ (by (exact kp))).mono ?_; rintro e3 w3 ⟨rfl, rfl⟩) | fail)
            refine (HFR.out _).mono ?_
            rintro e4 w4 ⟨rfl, hg4⟩
            obtain ⟨b0, b1, b2, b3, b4, b5, b6⟩ := box7 hg4
            have hs4 := hg4.size
            have hlw4 : w.heap.size < w4.heap.size := (by simp only [World.size_alloc] at hs4; omega)
            have hg24 : Keeps w2 w4 := ((Keeps.refl _).alloc _).trans hg4
            have yf4 := (fun o : Nat => hg24.frz (a := ⟨w.heap.size, o, none⟩) hlw2 (yf2 o))
            have y0d := hg24.cell y0b
            have y1d := hg24.cell y1b
            go_wp2_with (first | (go_at_call 90; refine (HCL.out _).mono ?_; rintro e5 w5 ⟨rfl, rfl⟩) | (go_at_call 92; refine (HSD.out _).mono ?_; rintro e6 w6 ⟨rfl, hg6⟩; have y0e := hg6.cell y0d; have y1e := hg6.cell y1d; have yf6 := (fun o : Nat => hg6.frz (a := ⟨w.heap.size, o, none⟩) hlw4 (yf4 o)); have yf60 := yf6 0; have yf61 := yf6 1; have hlw6 : w.heap.size < w6.heap.size := (by have := hg6.size; omega)) | fail)
            go_roundg ((M.n - (r.bot + 1)).toNat + 1)
            case rel => exact ⟨r.bot + 1, sd, K', rfl, by omega, by omega, rfl, HK1'.out, HSO.out, HSL.out, by rw [HJ.out]; rfl, by simp [go_sem, yf60, yf61, y0e, y1e, hlw6], by simp [go_sem, yf60, yf61, y0e, y1e, hlw6], fun o => by simp [go_sem, yf6 o], by simpa using hlw6, by (exact kp)⟩
            case measure => have := HGK.out; omega
  · rw [decide_eq_false c0, Bool.false_and]
    obtain ⟨c, hc⟩ : ∃ c, c = mayC M f v l := ⟨_, rfl⟩
    rw [← hc] at hmay hr c0 ⊢
    have g0 : (c != 0) = true := by simp [c0]
    have HM := Lib.hid hmay
    clear h hmay hc
    go_enter Try.func51, Try.ntmps51
    go_wp2_with (first | (go_at_call 77; refine (HM.out _ (by (exact kp))).mono ?_; rintro e w1 ⟨rfl, hk⟩) | fail)
    go_ret2
    exact ⟨rfl, by (exact kp)⟩

end Go.Proofs.Ytiacdpoldgfpbaa
