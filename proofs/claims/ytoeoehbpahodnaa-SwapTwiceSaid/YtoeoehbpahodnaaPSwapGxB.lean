/-
  swap.Move: the walk.
-/
import Derived.Test.YtoeoehbpahodnaaPSetWxB
import Derived.Test.YtoeoehbpahodnaaPSwapG
namespace Go.Proofs.Ytoeoehbpahodnaa
set_option linter.unusedSimpArgs false
set_option linter.unusedVariables false
set_option maxHeartbeats 600000
open Go.RowKit

def mvUp (a d : Nat) : List Value := (List.range d).map (fun i : Nat => Value.int .i64 ((a : Int) + (i : Int)))

def mvDn (a d : Nat) : List Value := (List.range d).map (fun i : Nat => Value.int .i64 ((a : Int) - 1 - (i : Int)))

theorem mvUp_succ (a d : Nat) : mvUp a (d + 1) = mvUp a d ++ [.int .i64 ((a : Int) + (d : Int))] := by unfold mvUp; rw [List.range_succ, List.map_append]; rfl

theorem mvDn_succ (a d : Nat) : mvDn a (d + 1) = mvDn a d ++ [.int .i64 ((a : Int) - 1 - (d : Int))] := by unfold mvDn; rw [List.range_succ, List.map_append]; rfl

theorem moveL_len (a b : Nat) : (moveL a b).length = (b - a) + (a - b) := by
  unfold moveL
  split
  · simp; omega
  · simp; omega

theorem moveL_vals (a b : Nat) : (moveL a b).map (fun s : Nat => Value.int .i64 (s : Int)) = mvUp a (b - a) ++ mvDn a (a - b) := by
  unfold moveL
  split
  · rw [show a - b = 0 from by omega]
    simp [mvUp, mvDn, List.map_map]
  · rw [show b - a = 0 from by omega]
    simp only [mvUp, mvDn, List.range_zero, List.map_nil, List.nil_append, List.map_map]
    apply List.map_congr_left
    intro i hi
    rw [List.mem_range] at hi
    simp only [Function.comp]
    congr 1
    omega

set_option maxRecDepth 100000 in
set_option maxHeartbeats 4000000 in
theorem move_walk (sb ob a b n N : Nat) (a3 : Option Addr) (cap3 : Nat) (w : World) (P : Ending → World → Prop) (hn : n ≤ 16) (ha : a < n) (hb : b < n)
    (hfit : ∀ W, Keeps w W → Calls Try.prog 35 #[.pointer (some ⟨sb, 0, none⟩), .pointer (some ⟨ob, 0, none⟩)] W fun e w' => e = .returned (.int .u8 0) ∧ Keeps W w')
    (hvar : ∀ W, Keeps w W → Calls Try.prog 36 #[.pointer (some ⟨sb, 0, none⟩)] W fun e w' => e = .returned (.int .i64 (n : Int)) ∧ W = w')
    (hall : ∀ W a2 cap2, Keeps w W → W.ownsRow w.heap.size 3 1 (.slice a2 ((b - a) + (a - b)) cap2) ((b - a) + (a - b)) (mvUp a (b - a) ++ mvDn a (a - b)) → Calls Try.prog 37 #[.pointer (some ⟨sb, 0, none⟩), .pointer (some ⟨ob, 0, none⟩), .slice a2 ((b - a) + (a - b)) cap2, .slice a3 N cap3] W P)
    (hshape : ∀ r w', P r w' → ∃ v1 v2, r = .returned (.tuple #[v1, v2])) :
    Calls Try.prog 10 #[.pointer (some ⟨sb, 0, none⟩), .pointer (some ⟨ob, 0, none⟩), .int .i64 (a : Int), .int .i64 (b : Int), .slice a3 N cap3] w P := by
  obtain ⟨i0, hi, hz0, hz1, hz2⟩ := info_parts info_int
  obtain ⟨u, hu⟩ : ∃ u, u = b - a := ⟨_, rfl⟩
  obtain ⟨t, ht⟩ : ∃ t, t = a - b := ⟨_, rfl⟩
  rw [← hu, ← ht] at hall
  have HU := Lib.hid hu
  have HT := Lib.hid ht
  clear hu ht
  have HF := Lib.hid hfit
  have HV := Lib.hid hvar
  have HA := Lib.hid hall
  have HSH := Lib.hid hshape
  have i1 : ¬ (a : Int) < 0 := by omega
  have i2 : ¬ n ≤ a := by omega
  have i3 : ¬ (b : Int) < 0 := by omega
  have i4 : ¬ n ≤ b := by omega
  clear hfit hvar hall hshape
  go_enter Try.func10, Try.ntmps10
  go_wp2_with (first | (go_at_call 35; refine (HF.out _ (by (exact kp))).mono ?_; rintro e w1 ⟨rfl, hk1⟩) | (go_at_call 36; refine (HV.out _ (by (exact kp))).mono ?_; rintro e w2 ⟨rfl, rfl⟩) | fail)
  go_loopg [14, 15] u (fun gk s14 s15 wr => ∃ (d : Nat) (v : Value), s14 = v ∧ s15 = .int .i64 ((a : Int) + (d : Int)) ∧ d + gk = u ∧ wr.ownsRow w.heap.size 3 1 v d (mvUp a d) ∧ Keeps w wr)
  case atStart => exact ⟨0, .slice none 0 0, rfl, by simp, by omega, World.ownsRow_nil _ _ _ _, by (exact kp)⟩
  case round =>
    obtain ⟨d, v, rfl, rfl, hd, ho, hk⟩ := hrel
    obtain ⟨la, lcap, rfl, -⟩ := owns_slice ho
    have HO := Lib.hid ho
    clear ho
    by_cases hlt : d < u
    · have q0 : (a : Int) + (d : Int) < (b : Int) := by have e1 : u = b - a := HU.out; omega
      have q1 : d + 1 ≤ maxLen := by have e1 : u = b - a := HU.out; unfold maxLen; omega
      have q2 : (d + 1) * 8 ≤ 140737488355328 := by have e1 : u = b - a := HU.out; omega
      go_wp2_with (first
        | (at_builtin; refine wpList_append_own _ rfl _ _ 23 rfl w.heap.size 3 i0 (.int .i64 0) 1 8 Try.underlying23 hi hz0 hz1 hz2 rfl (by decide) (.slice la d lcap) d (mvUp a d) rfl (HO.out.alloc _) ⟨wr.heap.size, 0, none⟩ 1 1 [.int .i64 ((a : Int) + (d : Int))] rfl rfl (cell_new _ _ _ _ rfl) (by simp [Value.oneCell']) (by exact q1) (by exact q2) (by have := hk.size; simp; omega) ?_; intro v3 w3 hown3 hg3 _)
        | fail)
      go_roundg (gk - 1)
      case rel =>
        have hu3 : Upd (fun k => (Value.slice la d lcap).ownBlock = some k) wr w3 := Upd.grown (by repeat (first | exact Upd.refl _ _ | refine Upd.alloc ?_ _ | refine Upd.drew ?_)) hg3 (fun k hk => .inl hk)
        refine ⟨d + 1, _, rfl, congrArg (Value.int .i64) (by omega), by omega, by rw [mvUp_succ]; exact hown3, hk.new hu3 (fun k hk2 => ?_)⟩
        rcases HO.out.2 with ⟨e0, _⟩ | ⟨g', cap', cur, e0, hbg, _⟩
        · rw [e0] at hk2; simp [Value.ownBlock] at hk2
        · rw [e0] at hk2; simp [Value.ownBlock] at hk2; omega
      case measure => omega
    · have q0 : ¬ (a : Int) + (d : Int) < (b : Int) := by have e1 : u = b - a := HU.out; omega
      have hd2 : d = u := by omega
      subst hd2
      go_wp2_with fail
      go_loopg [14, 16] t (fun gk s14 s16 wr => ∃ (e : Nat) (v : Value), s14 = v ∧ s16 = .int .i64 ((a : Int) - (e : Int)) ∧ e + gk = t ∧ wr.ownsRow w.heap.size 3 1 v (d + e) (mvUp a d ++ mvDn a e) ∧ Keeps w wr)
      case atStart => exact ⟨0, .slice la d lcap, rfl, by simp, by omega, by have := HO.out; simpa [mvDn] using this, by (exact kp)⟩
      case round =>
        obtain ⟨e, v, rfl, rfl, he, ho2, hk2⟩ := hrel
        obtain ⟨lb, lcap2, rfl, -⟩ := owns_slice ho2
        have HO2 := Lib.hid ho2
        clear ho2
        by_cases hlt2 : e < t
        · have q3 : (b : Int) < (a : Int) - (e : Int) := by have e2 : t = a - b := HT.out; omega
          have q1 : d + e + 1 ≤ maxLen := by have e1 : d = b - a := HU.out; have e2 : t = a - b := HT.out; unfold maxLen; omega
          have q2 : (d + e + 1) * 8 ≤ 140737488355328 := by have e1 : d = b - a := HU.out; have e2 : t = a - b := HT.out; omega
          go_wp2_with (first
            | (at_builtin; refine wpList_append_own _ rfl _ _ 23 rfl w.heap.size 3 i0 (.int .i64 0) 1 8 Try.underlying23 hi hz0 hz1 hz2 rfl (by decide) (.slice lb (d + e) lcap2) (d + e) (mvUp a d ++ mvDn a e) rfl (HO2.out.alloc _) ⟨wr.heap.size, 0, none⟩ 1 1 [.int .i64 ((a : Int) - (e : Int) - 1)] rfl rfl (cell_new _ _ _ _ rfl) (by simp [Value.oneCell']) (by exact q1) (by exact q2) (by have := hk2.size; simp; omega) ?_; intro v3 w3 hown3 hg3 _)
            | fail)
          go_roundg (gk - 1)
          case rel =>
            have hu3 : Upd (fun k => (Value.slice lb (d + e) lcap2).ownBlock = some k) wr w3 := Upd.grown (by repeat (first | exact Upd.refl _ _ | refine Upd.alloc ?_ _ | refine Upd.drew ?_)) hg3 (fun k hk => .inl hk)
            refine ⟨e + 1, _, rfl, congrArg (Value.int .i64) (by omega), by omega, by rw [mvDn_succ, ← List.append_assoc, show (a : Int) - 1 - (e : Int) = (a : Int) - (e : Int) - 1 from by omega]; exact hown3, hk2.new hu3 (fun k hk2 => ?_)⟩
            rcases HO2.out.2 with ⟨e0, _⟩ | ⟨g', cap', cur, e0, hbg, _⟩
            · rw [e0] at hk2; simp [Value.ownBlock] at hk2
            · rw [e0] at hk2; simp [Value.ownBlock] at hk2; omega
          case measure => omega
        · have q3 : ¬ (b : Int) < (a : Int) - (e : Int) := by have e2 : t = a - b := HT.out; omega
          have he2 : t = e := by omega
          subst he2
          go_wp2_with fail
          refine (HA.out _ lb lcap2 (by (exact kp)) HO2.out).mono ?_
          rintro r w4 hh
          obtain ⟨v1, v2, rfl⟩ := HSH.out _ _ hh
          have HH := Lib.hid hh
          clear hh
          go_wp2_with fail
          exact HH.out

def moveCode (M : St) (n : Nat) (a b : Int) (rs : List (Int × Edge)) : Int := if M.n = (n : Int) then (if a < 0 ∨ M.n ≤ a ∨ b < 0 ∨ M.n ≤ b then 3 else mayL M rs) else 1

set_option maxRecDepth 100000 in
theorem move_fit (sb ob : Nat) (a b : Int) (s3 : Value) (w : World)
    (hfit : ∀ W, Keeps w W → Calls Try.prog 35 #[.pointer (some ⟨sb, 0, none⟩), .pointer (some ⟨ob, 0, none⟩)] W fun e w' => e = .returned (.int .u8 1) ∧ Keeps W w') :
    Calls Try.prog 10 #[.pointer (some ⟨sb, 0, none⟩), .pointer (some ⟨ob, 0, none⟩), .int .i64 a, .int .i64 b, s3] w fun e w' => e = .returned (.tuple #[.slice none 0 0, .int .u8 1]) ∧ Keeps w w' := by
  have HF := Lib.hid hfit
  clear hfit
  go_enter Try.func10, Try.ntmps10
  go_wp2_with (first | (go_at_call 35; refine (HF.out _ (by (exact kp))).mono ?_; rintro e w1 ⟨rfl, hk1⟩) | fail)
  go_ret2
  exact ⟨rfl, by (exact kp)⟩

set_option maxRecDepth 100000 in
theorem move_range (sb ob : Nat) (a b n : Int) (s3 : Value) (w : World) (h : a < 0 ∨ n ≤ a ∨ b < 0 ∨ n ≤ b)
    (hfit : ∀ W, Keeps w W → Calls Try.prog 35 #[.pointer (some ⟨sb, 0, none⟩), .pointer (some ⟨ob, 0, none⟩)] W fun e w' => e = .returned (.int .u8 0) ∧ Keeps W w')
    (hvar : ∀ W, Keeps w W → Calls Try.prog 36 #[.pointer (some ⟨sb, 0, none⟩)] W fun e w' => e = .returned (.int .i64 n) ∧ W = w') :
    Calls Try.prog 10 #[.pointer (some ⟨sb, 0, none⟩), .pointer (some ⟨ob, 0, none⟩), .int .i64 a, .int .i64 b, s3] w fun e w' => e = .returned (.tuple #[.slice none 0 0, .int .u8 3]) ∧ Keeps w w' := by
  have HF := Lib.hid hfit
  have HV := Lib.hid hvar
  clear hfit hvar
  by_cases h1 : a < 0
  · clear h
    go_enter Try.func10, Try.ntmps10
    go_wp2_with (first | (go_at_call 35; refine (HF.out _ (by (exact kp))).mono ?_; rintro e w1 ⟨rfl, hk1⟩) | (go_at_call 36; refine (HV.out _ (by (exact kp))).mono ?_; rintro e w2 ⟨rfl, rfl⟩) | fail)
    go_ret2
    exact ⟨rfl, by (exact kp)⟩
  · by_cases h2 : n ≤ a
    · clear h
      go_enter Try.func10, Try.ntmps10
      go_wp2_with (first | (go_at_call 35; refine (HF.out _ (by (exact kp))).mono ?_; rintro e w1 ⟨rfl, hk1⟩) | (go_at_call 36; refine (HV.out _ (by (exact kp))).mono ?_; rintro e w2 ⟨rfl, rfl⟩) | fail)
      go_ret2
      exact ⟨rfl, by (exact kp)⟩
    · by_cases h3 : b < 0
      · clear h
        go_enter Try.func10, Try.ntmps10
        go_wp2_with (first | (go_at_call 35; refine (HF.out _ (by (exact kp))).mono ?_; rintro e w1 ⟨rfl, hk1⟩) | (go_at_call 36; refine (HV.out _ (by (exact kp))).mono ?_; rintro e w2 ⟨rfl, rfl⟩) | fail)
        go_ret2
        exact ⟨rfl, by (exact kp)⟩
      · have h4 : n ≤ b := by omega
        clear h
        go_enter Try.func10, Try.ntmps10
        go_wp2_with (first | (go_at_call 35; refine (HF.out _ (by (exact kp))).mono ?_; rintro e w1 ⟨rfl, hk1⟩) | (go_at_call 36; refine (HV.out _ (by (exact kp))).mono ?_; rintro e w2 ⟨rfl, rfl⟩) | fail)
        go_ret2
        exact ⟨rfl, by (exact kp)⟩

theorem moveL_mem2 {a b s n : Nat} (ha : a < n) (hb : b < n) (h : s ∈ moveL a b) : s + 1 < n := by
  unfold moveL at h
  split at h
  · obtain ⟨i, hi, rfl⟩ := List.mem_map.1 h
    rw [List.mem_range] at hi
    omega
  · obtain ⟨i, hi, rfl⟩ := List.mem_map.1 h
    rw [List.mem_range] at hi
    omega

set_option maxHeartbeats 1000000 in
theorem move_calls {F Fo : Nat → Prop} {w : World} {sb ob : Nat} {M : St} {ps : List Int} {rs : List (Int × Edge)} {c : Int} (h : StoreRep F w sb M) (ho : OrdRep Fo w ob ps) (hd : ∀ k, F k → ¬ Fo k) (a b : Int)
    (a3 : Option Addr) (cap3 : Nat) (hR : ∀ W, Upd (fun j => F j ∨ Fo j) w W → IsRoots W a3 rs) (hrl : rs.length ≤ 16) (hc : ∀ s : Nat, (s : Int) + 1 < M.n → costS (s : Int) 0 ≤ c) (hc0 : 0 ≤ c) (hroom : 0 ≤ a → a < M.n → 0 ≤ b → b < M.n → M.len + (((moveL a.toNat b.toNat).length * rs.length : Nat) : Int) * c < M.room) (hrm : M.room < 1048576) :
    Calls Try.prog 10 #[.pointer (some ⟨sb, 0, none⟩), .pointer (some ⟨ob, 0, none⟩), .int .i64 a, .int .i64 b, .slice a3 rs.length cap3] w (SwapsOut F Fo w sb ob M ps (moveL a.toNat b.toNat) rs c (moveCode M ps.length a b rs)) := by
  have hfit := fun (W : World) (hW : Keeps w W) => swapFit_calls (h.keeps hW) (ho.keeps hW)
  have hvar := fun (W : World) (hW : Keeps w W) => store_vars (h.keeps hW)
  have hn0 := h.wf.n0
  have hn16 := h.wf.n16
  by_cases h1 : M.n = (ps.length : Int)
  · rw [if_pos h1] at hfit
    by_cases h2 : a < 0 ∨ M.n ≤ a ∨ b < 0 ∨ M.n ≤ b
    · have e1 : moveCode M ps.length a b rs = 3 := by unfold moveCode; rw [if_pos h1, if_pos h2]
      rw [e1]
      exact (move_range sb ob a b M.n _ w h2 hfit hvar).mono fun r w' ⟨he, hk⟩ => .inl ⟨by decide, he, hk⟩
    · have e1 : moveCode M ps.length a b rs = mayL M rs := by unfold moveCode; rw [if_pos h1, if_neg h2]
      rw [e1]
      obtain ⟨A, rfl⟩ : ∃ A : Nat, a = (A : Int) := ⟨a.toNat, by omega⟩
      obtain ⟨B, rfl⟩ : ∃ B : Nat, b = (B : Int) := ⟨b.toNat, by omega⟩
      rw [h1] at hvar
      have hroom := hroom (by omega) (by omega) (by omega) (by omega)
      rw [Int.toNat_natCast, Int.toNat_natCast] at hroom ⊢
      refine move_walk sb ob A B ps.length rs.length a3 cap3 w _ (by omega) (by omega) (by omega) hfit hvar (fun W a2 cap2 hW hown => ?_) (fun r w' hh => ?_)
      · rw [← moveL_vals] at hown
        have hlen := moveL_len A B
        rw [← hlen] at hown ⊢
        by_cases hm : mayL M rs = 0
        · have hall := swapAll_calls (ss := moveL A B) (c := c) (h.keeps hW) (ho.keeps hW) hd a2 a3 cap2 cap3 (fun W' hW' i x hx => ?_) (fun W' hW' => hR W' ((hW.upd _).trans' hW')) (by omega) hrl hm h1 (fun s hs => moveL_mem2 (by omega) (by omega) hs) (fun s hs => hc s (by have := moveL_mem2 (n := ps.length) (by omega) (by omega) hs; omega)) hc0 hroom hrm
          · exact hall.mono fun r w' hh => .inr ⟨hm, hh.before hW⟩
          · exact owns_ints hown hW' (fun k hk => by rcases hk with hk | hk; exact h.lt _ hk; exact ho.lt _ hk) i x hx
        · exact (all_bad (h.keeps hW) _ _ a3 cap3 (hR W (hW.upd _)) (by omega) hm).mono fun r w' ⟨he, hk⟩ => .inl ⟨hm, he, hW.trans hk⟩
      · rcases hh with ⟨_, rfl, _⟩ | ⟨_, g, es, M', F', rfl, _⟩
        · exact ⟨_, _, rfl⟩
        · exact ⟨_, _, rfl⟩
  · have e1 : moveCode M ps.length a b rs = 1 := if_neg h1
    rw [if_neg h1] at hfit
    rw [e1]
    exact (move_fit sb ob a b _ w hfit).mono fun r w' ⟨he, hk⟩ => .inl ⟨by decide, he, hk⟩

end Go.Proofs.Ytoeoehbpahodnaa
