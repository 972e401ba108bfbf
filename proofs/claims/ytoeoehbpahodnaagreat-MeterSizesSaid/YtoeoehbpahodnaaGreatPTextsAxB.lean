/-
  A row of bools of the call's own; which ids of the document's list are marked.
-/
import Derived.Test.YtoeoehbpahodnaaGreatPTermA
namespace Go.Proofs.YtoeoehbpahodnaaGreat
set_option linter.unusedSimpArgs false
set_option linter.unusedVariables false
set_option maxHeartbeats 600000
open Go.RowKit

theorem bools_made {w : World} {blk n : Nat} (h : w.ownsRow blk 4 1 (.slice (some ⟨blk, 0, none⟩) n n) n (madeCells (Value.bool false).cells (n * 1)).toList) : BoolsAt w blk (List.replicate n false) := by
  obtain ⟨cur, hcur⟩ := owns_type h (k := blk) rfl
  rcases h.2 with ⟨h0, _⟩ | ⟨g, cap, cur', hv, _, hg, _, _, hs, ht⟩
  · cases h0
  · cases hv
    unfold BoolsAt
    rw [hg]
    have e1 : (madeCells (Value.bool false).cells (n * 1)).toList = List.replicate n (Value.bool false) := by
      show (madeCells #[Value.bool false] (n * 1)).toList = _
      rw [toList_madeCells_one, Nat.mul_one]
    rw [e1] at ht
    have e2 : cur'.toList = List.replicate n (Value.bool false) := by
      rw [← ht, List.take_of_length_le (by simp; omega)]
    congr 2
    rw [List.map_replicate, ← e2]

end Go.Proofs.YtoeoehbpahodnaaGreat

namespace Go.Proofs.YtoeoehbpahodnaaGreat
set_option linter.unusedSimpArgs false
set_option linter.unusedVariables false
set_option maxHeartbeats 600000
open Go.RowKit

set_option maxRecDepth 100000 in
theorem num_calls (k : Int) (w : World) (h0 : 0 ≤ k) (h1 : k < 10) : Calls Tryz.prog 232 #[.int .i64 k] w fun e w' => e = .returned (.string (digS k)) ∧ Keeps w w' := by
  have hcv := run_convert_bytes_arg (P := Tryz.prog) (w.alloc (.cells #[.int .u8 (48 + k)] 5)) 49 5 rfl rfl w.heap.size 0 1 1 [48 + k] rfl (fun i hi => by
    have hi0 : i = 0 := by omega
    subst hi0
    simp) 9 rfl
  go_enter Tryz.func232, Tryz.ntmps232
  go_wp2
  go_ret
  exact ⟨rfl, by (exact kp)⟩

theorem tag_calls (k : Int) (w : World) (h0 : 0 ≤ k) (h1 : k < 10) : Calls Tryz.prog 233 #[.int .i64 k] w fun e w' => e = .returned (.string (digS k ++ ⟨#[64]⟩)) ∧ Keeps w w' := by
  have HN := Lib.hid (fun W => num_calls k W h0 h1)
  go_enter Tryz.func233, Tryz.ntmps233
  go_wp2_with (first | (go_at_call 232; refine (HN.out _).mono ?_; rintro e w1 ⟨rfl, hk⟩) | fail)
  go_ret
  exact ⟨rfl, by (exact kp)⟩

end Go.Proofs.YtoeoehbpahodnaaGreat

namespace Go.Proofs.YtoeoehbpahodnaaGreat
set_option linter.unusedSimpArgs false
set_option linter.unusedVariables false
set_option maxHeartbeats 600000
open Go.RowKit

theorem noneL_drop {ts : List Bool} {i : Nat} {b : Bool} (h : ts[i]? = some b) : noneL (ts.drop i) = (!b && noneL (ts.drop (i + 1))) := by
  obtain ⟨hi, hb⟩ := List.getElem?_eq_some_iff.1 h
  rw [List.drop_eq_getElem_cons hi, hb]
  rfl

theorem sameL_len {s t : List Bool} (h : s.length ≠ t.length) : sameL s t = false := by
  cases hs : sameL s t with
  | false => rfl
  | true => exact absurd (congrArg List.length (sameL_iff.1 hs)) h

theorem sameL_drop {s t : List Bool} {i : Nat} {a b : Bool} (ha : s[i]? = some a) (hb : t[i]? = some b) : sameL (s.drop i) (t.drop i) = (decide (a = b) && sameL (s.drop (i + 1)) (t.drop (i + 1))) := by
  obtain ⟨hi, ha⟩ := List.getElem?_eq_some_iff.1 ha
  obtain ⟨hj, hb⟩ := List.getElem?_eq_some_iff.1 hb
  rw [List.drop_eq_getElem_cons hi, List.drop_eq_getElem_cons hj, ha, hb]
  rfl

theorem none13_calls {B off : Nat} {ts : List Bool} (cap : Nat) (w : World) (h : TabAt w B off ts) (hl : ts.length ≤ 1048576) :
    Calls Tryz.prog 248 #[.slice (some ⟨B, off, none⟩) ts.length cap] w fun e w' => e = .returned (.bool (noneL ts)) ∧ w = w' := by
  obtain ⟨N, hN⟩ : ∃ N, N = ts.length := ⟨_, rfl⟩
  rw [← hN] at hl ⊢
  have H := Lib.hid h
  have HN := Lib.hid hN
  clear h hN
  go_enter Tryz.func248, Tryz.ntmps248
  go_wp2
  go_loopg [3] N (fun gk s3 wr => ∃ d : Nat, s3 = .int .i64 (d : Int) ∧ d + gk = N ∧ noneL (ts.drop d) = noneL ts ∧ w = wr)
  case atStart => exact ⟨0, rfl, by omega, rfl, rfl⟩
  case round =>
    obtain ⟨d, rfl, hd, hn, rfl⟩ := hrel
    have HNN := Lib.hid hn
    clear hn
    by_cases hlt : d < N
    · obtain ⟨b, hb⟩ : ∃ b, ts[d]? = some b := ⟨_, List.getElem?_eq_getElem (by rw [← HN.out]; exact hlt)⟩
      have c0 := H.out d b hb
      have hdr := noneL_drop hb
      have HD := Lib.hid hdr
      clear hdr hb
      cases b
      · go_wp2_with fail
        go_roundg (gk - 1)
        case rel => exact ⟨d + 1, by simp, by omega, by rw [← HNN.out, HD.out]; rfl, rfl⟩
        case measure => omega
      · go_wp2_with fail
        go_ret
        exact ⟨by rw [← HNN.out, HD.out]; rfl, rfl⟩
    · have hg0 : d = N := by omega
      have hh : noneL ts = true := by rw [← HNN.out, List.drop_of_length_le (by rw [← HN.out]; omega)]; rfl
      have HH := Lib.hid hh
      clear hg0 hh
      go_wp2_with fail
      go_ret
      exact ⟨by rw [HH.out]; rfl, rfl⟩

theorem none15_calls {B off : Nat} {ts : List Bool} (cap : Nat) (w : World) (h : TabAt w B off ts) (hl : ts.length ≤ 1048576) :
    Calls Tryz.prog 251 #[.slice (some ⟨B, off, none⟩) ts.length cap] w fun e w' => e = .returned (.bool (noneL ts)) ∧ w = w' := by
  obtain ⟨N, hN⟩ : ∃ N, N = ts.length := ⟨_, rfl⟩
  rw [← hN] at hl ⊢
  have H := Lib.hid h
  have HN := Lib.hid hN
  clear h hN
  go_enter Tryz.func251, Tryz.ntmps251
  go_wp2
  go_loopg [3] N (fun gk s3 wr => ∃ d : Nat, s3 = .int .i64 (d : Int) ∧ d + gk = N ∧ noneL (ts.drop d) = noneL ts ∧ w = wr)
  case atStart => exact ⟨0, rfl, by omega, rfl, rfl⟩
  case round =>
    obtain ⟨d, rfl, hd, hn, rfl⟩ := hrel
    have HNN := Lib.hid hn
    clear hn
    by_cases hlt : d < N
    · obtain ⟨b, hb⟩ : ∃ b, ts[d]? = some b := ⟨_, List.getElem?_eq_getElem (by rw [← HN.out]; exact hlt)⟩
      have c0 := H.out d b hb
      have hdr := noneL_drop hb
      have HD := Lib.hid hdr
      clear hdr hb
      cases b
      · go_wp2_with fail
        go_roundg (gk - 1)
        case rel => exact ⟨d + 1, by simp, by omega, by rw [← HNN.out, HD.out]; rfl, rfl⟩
        case measure => omega
      · go_wp2_with fail
        go_ret
        exact ⟨by rw [← HNN.out, HD.out]; rfl, rfl⟩
    · have hg0 : d = N := by omega
      have hh : noneL ts = true := by rw [← HNN.out, List.drop_of_length_le (by rw [← HN.out]; omega)]; rfl
      have HH := Lib.hid hh
      clear hg0 hh
      go_wp2_with fail
      go_ret
      exact ⟨by rw [HH.out]; rfl, rfl⟩

theorem none16_calls {B off : Nat} {ts : List Bool} (cap : Nat) (w : World) (h : TabAt w B off ts) (hl : ts.length ≤ 1048576) :
    Calls Tryz.prog 253 #[.slice (some ⟨B, off, none⟩) ts.length cap] w fun e w' => e = .returned (.bool (noneL ts)) ∧ w = w' := by
  obtain ⟨N, hN⟩ : ∃ N, N = ts.length := ⟨_, rfl⟩
  rw [← hN] at hl ⊢
  have H := Lib.hid h
  have HN := Lib.hid hN
  clear h hN
  go_enter Tryz.func253, Tryz.ntmps253
  go_wp2
  go_loopg [3] N (fun gk s3 wr => ∃ d : Nat, s3 = .int .i64 (d : Int) ∧ d + gk = N ∧ noneL (ts.drop d) = noneL ts ∧ w = wr)
  case atStart => exact ⟨0, rfl, by omega, rfl, rfl⟩
  case round =>
    obtain ⟨d, rfl, hd, hn, rfl⟩ := hrel
    have HNN := Lib.hid hn
    clear hn
    by_cases hlt : d < N
    · obtain ⟨b, hb⟩ : ∃ b, ts[d]? = some b := ⟨_, List.getElem?_eq_getElem (by rw [← HN.out]; exact hlt)⟩
      have c0 := H.out d b hb
      have hdr := noneL_drop hb
      have HD := Lib.hid hdr
      clear hdr hb
      cases b
      · go_wp2_with fail
        go_roundg (gk - 1)
        case rel => exact ⟨d + 1, by simp, by omega, by rw [← HNN.out, HD.out]; rfl, rfl⟩
        case measure => omega
      · go_wp2_with fail
        go_ret
        exact ⟨by rw [← HNN.out, HD.out]; rfl, rfl⟩
    · have hg0 : d = N := by omega
      have hh : noneL ts = true := by rw [← HNN.out, List.drop_of_length_le (by rw [← HN.out]; omega)]; rfl
      have HH := Lib.hid hh
      clear hg0 hh
      go_wp2_with fail
      go_ret
      exact ⟨by rw [HH.out]; rfl, rfl⟩

theorem same_calls {B B2 off off2 : Nat} {ss ts : List Bool} (cap cap2 : Nat) (w : World) (h1 : TabAt w B off ss) (h2 : TabAt w B2 off2 ts) (hl1 : ss.length ≤ 1048576) (hl2 : ts.length ≤ 1048576) :
    Calls Tryz.prog 47 #[.slice (some ⟨B, off, none⟩) ss.length cap, .slice (some ⟨B2, off2, none⟩) ts.length cap2] w fun e w' => e = .returned (.bool (sameL ss ts)) ∧ Keeps w w' := by
  by_cases hne : ss.length = ts.length
  · obtain ⟨N, hN⟩ : ∃ N, N = ss.length := ⟨_, rfl⟩
    have hM : N = ts.length := hN.trans hne
    rw [← hM, ← hN]
    rw [← hN] at hl1
    have H1 := Lib.hid h1
    have H2 := Lib.hid h2
    have HN := Lib.hid hN
    have HM := Lib.hid hM
    clear h1 h2 hN hM hne hl2
    go_enter Tryz.func47, Tryz.ntmps47
    go_wp2
    go_loopg [5] N (fun gk s5 wr => ∃ d : Nat, s5 = .int .i64 (d : Int) ∧ d + gk = N ∧ sameL (ss.drop d) (ts.drop d) = sameL ss ts ∧ Keeps w wr)
    case atStart => exact ⟨0, rfl, by omega, rfl, by (exact kp)⟩
    case round =>
      obtain ⟨d, rfl, hd, hn, hk⟩ := hrel
      have HNN := Lib.hid hn
      clear hn
      by_cases hlt : d < N
      · obtain ⟨a, ha⟩ : ∃ b, ss[d]? = some b := ⟨_, List.getElem?_eq_getElem (by rw [← HN.out]; exact hlt)⟩
        obtain ⟨b, hb⟩ : ∃ b, ts[d]? = some b := ⟨_, List.getElem?_eq_getElem (by rw [← HM.out]; exact hlt)⟩
        have c0 := hk.cell (H1.out d a ha)
        have c1 := hk.cell (H2.out d b hb)
        have hdr := sameL_drop ha hb
        have HD := Lib.hid hdr
        have i0 : (0 : Int) ≤ (d : Int) := by omega
        have i1 : (d : Int) < (N : Int) := by omega
        clear hdr ha hb
        cases a <;> cases b
        case false.false =>
          go_wp2_with fail
          go_quiet (fail)
          go_wp2
          go_roundg (gk - 1)
          case rel => exact ⟨d + 1, by simp, by omega, by rw [← HNN.out, HD.out]; rfl, by (exact kp)⟩
          case measure => omega
        case true.true =>
          go_wp2_with fail
          go_quiet (fail)
          go_wp2
          go_roundg (gk - 1)
          case rel => exact ⟨d + 1, by simp, by omega, by rw [← HNN.out, HD.out]; rfl, by (exact kp)⟩
          case measure => omega
        all_goals
          go_wp2_with fail
          go_quiet (fail)
          go_wp2
          go_ret
          exact ⟨by rw [← HNN.out, HD.out]; rfl, by (exact kp)⟩
      · have hg0 : d = N := by omega
        have hh : sameL ss ts = true := by rw [← HNN.out, List.drop_of_length_le (by rw [← HN.out]; omega), List.drop_of_length_le (by rw [← HM.out]; omega)]; rfl
        have HH := Lib.hid hh
        clear hg0 hh
        go_wp2_with fail
        go_ret
        exact ⟨by rw [HH.out]; rfl, hk⟩
  · have hf := sameL_len hne
    obtain ⟨N, hN⟩ : ∃ N, N = ss.length := ⟨_, rfl⟩
    obtain ⟨K, hK⟩ : ∃ K, K = ts.length := ⟨_, rfl⟩
    rw [hf]
    rw [← hN, ← hK] at hne ⊢
    have gne : ((N : Int) != (K : Int)) = true := by simp; omega
    clear h1 h2 hl1 hl2 hN hK hf hne
    go_enter Tryz.func47, Tryz.ntmps47
    go_wp2
    go_ret
    exact ⟨rfl, by (exact kp)⟩

theorem halves12_calls {B off : Nat} (p cap : Nat) (w : World) (hp1 : 1 ≤ p) (hp : 2 * p ≤ cap) (hc : cap ≤ 1048576) :
    Calls Tryz.prog 245 #[.slice (some ⟨B, off, none⟩) (2 * p) cap] w fun e w' => e = .returned (.tuple #[.slice (some ⟨B, off, none⟩) p cap, .slice (some ⟨B, off + p, none⟩) p (cap - p)]) ∧ Keeps w w' := by
  have q1 : (2 * (p : Int)) / 2 = (p : Int) := by omega
  have q2 : ((2 * (p : Int)).tdiv 2) = (p : Int) := by rw [Int.tdiv_eq_ediv_of_nonneg (by omega)]; exact q1
  go_enter Tryz.func245, Tryz.ntmps245
  go_wp2_with fail
  go_quiet (fail)
  go_wp2
  rw [show 2 * p - p = p by omega]
  go_ret2
  exact ⟨rfl, by (exact kp)⟩

theorem halves13_calls {B off : Nat} (p cap : Nat) (w : World) (hp1 : 1 ≤ p) (hp : 2 * p ≤ cap) (hc : cap ≤ 1048576) :
    Calls Tryz.prog 247 #[.slice (some ⟨B, off, none⟩) (2 * p) cap] w fun e w' => e = .returned (.tuple #[.slice (some ⟨B, off, none⟩) p cap, .slice (some ⟨B, off + p, none⟩) p (cap - p)]) ∧ Keeps w w' := by
  have q1 : (2 * (p : Int)) / 2 = (p : Int) := by omega
  have q2 : ((2 * (p : Int)).tdiv 2) = (p : Int) := by rw [Int.tdiv_eq_ediv_of_nonneg (by omega)]; exact q1
  go_enter Tryz.func247, Tryz.ntmps247
  go_wp2_with fail
  go_quiet (fail)
  go_wp2
  rw [show 2 * p - p = p by omega]
  go_ret2
  exact ⟨rfl, by (exact kp)⟩

theorem halves14_calls {B off : Nat} (p cap : Nat) (w : World) (hp1 : 1 ≤ p) (hp : 2 * p ≤ cap) (hc : cap ≤ 1048576) :
    Calls Tryz.prog 250 #[.slice (some ⟨B, off, none⟩) (2 * p) cap] w fun e w' => e = .returned (.tuple #[.slice (some ⟨B, off, none⟩) p cap, .slice (some ⟨B, off + p, none⟩) p (cap - p)]) ∧ Keeps w w' := by
  have q1 : (2 * (p : Int)) / 2 = (p : Int) := by omega
  have q2 : ((2 * (p : Int)).tdiv 2) = (p : Int) := by rw [Int.tdiv_eq_ediv_of_nonneg (by omega)]; exact q1
  go_enter Tryz.func250, Tryz.ntmps250
  go_wp2_with fail
  go_quiet (fail)
  go_wp2
  rw [show 2 * p - p = p by omega]
  go_ret2
  exact ⟨rfl, by (exact kp)⟩

theorem halves15_calls {B off : Nat} (p cap : Nat) (w : World) (hp1 : 1 ≤ p) (hp : 2 * p ≤ cap) (hc : cap ≤ 1048576) :
    Calls Tryz.prog 252 #[.slice (some ⟨B, off, none⟩) (2 * p) cap] w fun e w' => e = .returned (.tuple #[.slice (some ⟨B, off, none⟩) p cap, .slice (some ⟨B, off + p, none⟩) p (cap - p)]) ∧ Keeps w w' := by
  have q1 : (2 * (p : Int)) / 2 = (p : Int) := by omega
  have q2 : ((2 * (p : Int)).tdiv 2) = (p : Int) := by rw [Int.tdiv_eq_ediv_of_nonneg (by omega)]; exact q1
  go_enter Tryz.func252, Tryz.ntmps252
  go_wp2_with fail
  go_quiet (fail)
  go_wp2
  rw [show 2 * p - p = p by omega]
  go_ret2
  exact ⟨rfl, by (exact kp)⟩

theorem halves16_calls {B off : Nat} (p cap : Nat) (w : World) (hp1 : 1 ≤ p) (hp : 2 * p ≤ cap) (hc : cap ≤ 1048576) :
    Calls Tryz.prog 254 #[.slice (some ⟨B, off, none⟩) (2 * p) cap] w fun e w' => e = .returned (.tuple #[.slice (some ⟨B, off, none⟩) p cap, .slice (some ⟨B, off + p, none⟩) p (cap - p)]) ∧ Keeps w w' := by
  have q1 : (2 * (p : Int)) / 2 = (p : Int) := by omega
  have q2 : ((2 * (p : Int)).tdiv 2) = (p : Int) := by rw [Int.tdiv_eq_ediv_of_nonneg (by omega)]; exact q1
  go_enter Tryz.func254, Tryz.ntmps254
  go_wp2_with fail
  go_quiet (fail)
  go_wp2
  rw [show 2 * p - p = p by omega]
  go_ret2
  exact ⟨rfl, by (exact kp)⟩

end Go.Proofs.YtoeoehbpahodnaaGreat
