/-
  swap.Swap.
-/
import Derived.Test.YtiacdpoldgfpbaaPSwapB
namespace Go.Proofs.Ytiacdpoldgfpbaa
set_option linter.unusedSimpArgs false
set_option linter.unusedVariables false
set_option maxHeartbeats 600000
open Go.RowKit

def SwapsOut (F Fo : Nat → Prop) (w : World) (sb ob : Nat) (M : St) (ps : List Int) (ss : List Nat) (rs : List (Int × Edge)) (c code : Int) (r : Ending) (w' : World) : Prop :=
  (code ≠ 0 ∧ r = .returned (.tuple #[.slice none 0 0, .int .u8 code]) ∧ Keeps w w') ∨ (code = 0 ∧ AllOut F Fo w sb ob M ps ss rs c r w')

theorem AllOut.before {F Fo : Nat → Prop} {w W w' : World} {sb ob : Nat} {M : St} {ps : List Int} {ss : List Nat} {rs : List (Int × Edge)} {c : Int} {r : Ending} (h : AllOut F Fo W sb ob M ps ss rs c r w') (hk : Keeps w W) : AllOut F Fo w sb ob M ps ss rs c r w' := by
  obtain ⟨g, es, M', F', h1, h2, h3, h4, h5, h6, h7, h8, h9, h10⟩ := h
  have hs := hk.size
  exact ⟨g, es, M', F', h1, h2, by omega, h4, h5, fun j hj => by rcases h6 j hj with q | q; exact .inl q; exact .inr (by omega), h7, h8, (hk.upd _).trans' h9, h10⟩

set_option maxRecDepth 100000 in
theorem all_bad {F : Nat → Prop} {w : World} {sb : Nat} {M : St} {rs : List (Int × Edge)} (h : StoreRep F w sb M) (op s2 : Value) (a3 : Option Addr) (cap3 : Nat) (hR : IsRoots w a3 rs) (hrl : rs.length ≤ 1048576) (hm : mayL M rs ≠ 0) :
    Calls Try.prog 68 #[.pointer (some ⟨sb, 0, none⟩), op, s2, .slice a3 rs.length cap3] w fun e w' => e = .returned (.tuple #[.slice none 0 0, .int .u8 (mayL M rs)]) ∧ Keeps w w' := by
  have hmay := fun (W : World) (hW : Keeps w W) => swapMay_calls (h.keeps hW) a3 cap3 rs (hR.keeps hW) hrl
  have hrg := mayL_range M rs
  obtain ⟨c, hc⟩ : ∃ c, c = mayL M rs := ⟨_, rfl⟩
  obtain ⟨N, hN⟩ : ∃ N, N = rs.length := ⟨_, rfl⟩
  rw [← hc, ← hN] at hmay
  rw [← hc] at hm hrg ⊢
  rw [← hN]
  have HMAY := Lib.hid hmay
  have g0 : (c != 0) = true := by simp [hm]
  clear hmay h hR hc hN hrl
  go_enter Try.func68, Try.ntmps68
  go_wp2_with (first | (go_at_call 107; refine (HMAY.out _ (by (exact kp))).mono ?_; rintro e w1 ⟨rfl, hk1⟩) | fail)
  go_ret2
  exact ⟨rfl, hk1⟩

def swapCode (M : St) (n : Nat) (lv : Int) (rs : List (Int × Edge)) : Int := if M.n = (n : Int) then (if lv < 0 ∨ M.n - 1 ≤ lv then 3 else mayL M rs) else 1

set_option maxRecDepth 100000 in
set_option maxHeartbeats 2000000 in
theorem swapSwap_calls {F Fo : Nat → Prop} {w : World} {sb ob : Nat} {M : St} {ps : List Int} {rs : List (Int × Edge)} {c : Int} (h : StoreRep F w sb M) (ho : OrdRep Fo w ob ps) (hd : ∀ k, F k → ¬ Fo k) (lv : Int)
    (a3 : Option Addr) (cap3 : Nat) (hR : ∀ W, Upd (fun j => F j ∨ Fo j) w W → IsRoots W a3 rs) (hrl : rs.length ≤ 16) (hc : 0 ≤ lv → lv + 1 < M.n → costS lv 0 ≤ c) (hc0 : 0 ≤ c) (hroom : M.len + (rs.length : Int) * c < M.room) (hrm : M.room < 1048576) :
    Calls Try.prog 26 #[.pointer (some ⟨sb, 0, none⟩), .pointer (some ⟨ob, 0, none⟩), .int .i64 lv, .slice a3 rs.length cap3] w (SwapsOut F Fo w sb ob M ps [lv.toNat] rs c (swapCode M ps.length lv rs)) := by
  have hfit := fun (W : World) (hW : Keeps w W) => swapFit_calls (h.keeps hW) (ho.keeps hW)
  have hvar := fun (W : World) (hW : Keeps w W) => store_vars (h.keeps hW)
  have hn0 := h.wf.n0
  have hn16 := h.wf.n16
  by_cases h1 : M.n = (ps.length : Int)
  · have e1 : swapCode M ps.length lv rs = if lv < 0 ∨ M.n - 1 ≤ lv then 3 else mayL M rs := if_pos h1
    rw [if_pos h1] at hfit
    rw [e1]
    by_cases h2 : lv < 0 ∨ M.n - 1 ≤ lv
    · rw [if_pos h2]
      have HF := Lib.hid hfit
      have HV := Lib.hid hvar
      obtain ⟨n, hn⟩ : ∃ n, n = M.n := ⟨_, rfl⟩
      rw [← hn] at HV h2 hn0 hn16
      clear hfit hvar h ho hd hR hrl hc hroom hrm hn h1 e1
      have hout : ∀ w' : World, Keeps w w' → SwapsOut F Fo w sb ob M ps [lv.toNat] rs c 3 (.returned (.tuple #[.slice none 0 0, .int .u8 3])) w' := fun w' hk => .inl ⟨by decide, rfl, hk⟩
      have HOUT := Lib.hid hout
      clear hout
      by_cases h3 : lv < 0
      · go_enter Try.func26, Try.ntmps26
        go_wp2_with (first | (go_at_call 67; refine (HF.out _ (by (exact kp))).mono ?_; rintro e w1 ⟨rfl, hk1⟩) | (go_at_call 50; refine (HV.out _ (by (exact kp))).mono ?_; rintro e w1 ⟨rfl, rfl⟩) | fail)
        go_ret2
        exact HOUT.out _ (by (exact kp))
      · have h4 : n - 1 ≤ lv := by omega
        go_enter Try.func26, Try.ntmps26
        go_wp2_with (first | (go_at_call 67; refine (HF.out _ (by (exact kp))).mono ?_; rintro e w1 ⟨rfl, hk1⟩) | (go_at_call 50; refine (HV.out _ (by (exact kp))).mono ?_; rintro e w1 ⟨rfl, rfl⟩) | fail)
        go_ret2
        exact HOUT.out _ (by (exact kp))
    · rw [if_neg h2]
      obtain ⟨L, rfl⟩ : ∃ L : Nat, lv = (L : Int) := ⟨lv.toNat, by omega⟩
      have hallok : mayL M rs = 0 → ∀ (W : World) (B : Nat), Keeps w W → w.heap.size ≤ B → W.cell? ⟨B, 0, none⟩ = some (.int .i64 (L : Int)) → Calls Try.prog 68 #[.pointer (some ⟨sb, 0, none⟩), .pointer (some ⟨ob, 0, none⟩), .slice (some ⟨B, 0, none⟩) 1 1, .slice a3 rs.length cap3] W (SwapsOut F Fo w sb ob M ps [(L : Int).toNat] rs c (mayL M rs)) := fun hm W B hW hB hcB => by
        have hall := all_calls (ss := [L]) (c := c) (h.keeps hW) (ho.keeps hW) hd (some ⟨B, 0, none⟩) a3 1 cap3 (fun W' hW' i x hx => by
          have hnB : ¬ (F B ∨ Fo B) := fun hh => by
            rcases hh with hh | hh
            · have := h.lt _ hh; omega
            · have := ho.lt _ hh; omega
          cases i with
          | zero =>
            simp at hx
            subst hx
            exact ⟨B, 0, rfl, hW'.cellAt hnB hcB⟩
          | succ i => simp at hx) (fun W' hW' => hR W' ((hW.upd _).trans' hW')) (by simp) hrl hm h1 (fun s hs => by simp at hs; subst hs; omega) (fun s hs => by simp at hs; subst hs; exact hc (by omega) (by omega)) hc0 (by simpa using hroom) hrm
        refine hall.mono fun r w' hh => .inr ⟨hm, ?_⟩
        exact hh.before hW
      have hallbad : mayL M rs ≠ 0 → ∀ (W : World) (B : Nat), Keeps w W → Calls Try.prog 68 #[.pointer (some ⟨sb, 0, none⟩), .pointer (some ⟨ob, 0, none⟩), .slice (some ⟨B, 0, none⟩) 1 1, .slice a3 rs.length cap3] W (SwapsOut F Fo w sb ob M ps [(L : Int).toNat] rs c (mayL M rs)) := fun hm W B hW =>
        (all_bad (h.keeps hW) _ _ a3 cap3 (hR W (hW.upd _)) (by omega) hm).mono fun r w' ⟨he, hk⟩ => .inl ⟨hm, he, hW.trans hk⟩
      have hall : ∀ (W : World) (B : Nat), Keeps w W → w.heap.size ≤ B → W.cell? ⟨B, 0, none⟩ = some (.int .i64 (L : Int)) → Calls Try.prog 68 #[.pointer (some ⟨sb, 0, none⟩), .pointer (some ⟨ob, 0, none⟩), .slice (some ⟨B, 0, none⟩) 1 1, .slice a3 rs.length cap3] W (SwapsOut F Fo w sb ob M ps [(L : Int).toNat] rs c (mayL M rs)) := fun W B hW hB hcB => by
        by_cases hm : mayL M rs = 0
        · exact hallok hm W B hW hB hcB
        · exact hallbad hm W B hW
      obtain ⟨code, hcode⟩ : ∃ code, code = mayL M rs := ⟨_, rfl⟩
      rw [← hcode] at hall ⊢
      have HALL := Lib.hid hall
      have HF := Lib.hid hfit
      have HV := Lib.hid hvar
      obtain ⟨n, hn⟩ : ∃ n, n = M.n := ⟨_, rfl⟩
      rw [← hn] at HV h2 hn0 hn16
      have h4 : ¬ n - 1 ≤ (L : Int) := by omega
      have h5 : (L : Int) ≤ 16 := by omega
      have hshape : ∀ r w', SwapsOut F Fo w sb ob M ps [(L : Int).toNat] rs c code r w' → ∃ v1 v2, r = .returned (.tuple #[v1, v2]) := fun r w' hh => by
        rcases hh with ⟨_, rfl, _⟩ | ⟨_, g, es, M', F', rfl, _⟩
        · exact ⟨_, _, rfl⟩
        · exact ⟨_, _, rfl⟩
      have HSH := Lib.hid hshape
      clear hfit hvar h ho hd hR hc hroom hrm hn h1 e1 hall hallok hallbad hcode h2 hshape
      go_enter Try.func26, Try.ntmps26
      go_wp2_with (first | (go_at_call 67; refine (HF.out _ (by (exact kp))).mono ?_; rintro e w1 ⟨rfl, hk1⟩) | (go_at_call 50; refine (HV.out _ (by (exact kp))).mono ?_; rintro e w2 ⟨rfl, rfl⟩) | fail)
      refine (HALL.out _ w1.heap.size (by (exact kp)) hk1.size (by simp [go_sem])).mono ?_
      rintro r w3 hh
      obtain ⟨v1, v2, rfl⟩ := HSH.out _ _ hh
      have HH := Lib.hid hh
      clear hh
      go_wp2_with fail
      go_ret2
      exact HH.out
  · have e1 : swapCode M ps.length lv rs = 1 := if_neg h1
    rw [if_neg h1] at hfit
    rw [e1]
    have HF := Lib.hid hfit
    clear hfit hvar h ho hd hR hrl hc hroom hrm h1 e1
    have hout : ∀ w' : World, Keeps w w' → SwapsOut F Fo w sb ob M ps [lv.toNat] rs c 1 (.returned (.tuple #[.slice none 0 0, .int .u8 1])) w' := fun w' hk => .inl ⟨by decide, rfl, hk⟩
    have HOUT := Lib.hid hout
    clear hout
    go_enter Try.func26, Try.ntmps26
    go_wp2_with (first | (go_at_call 67; refine (HF.out _ (by (exact kp))).mono ?_; rintro e w1 ⟨rfl, hk1⟩) | fail)
    go_ret2
    exact HOUT.out _ (by (exact kp))

end Go.Proofs.Ytiacdpoldgfpbaa
