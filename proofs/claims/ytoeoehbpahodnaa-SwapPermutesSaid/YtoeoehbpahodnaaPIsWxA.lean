/-
  tbdd.Make and ramageref16.Make over the state.
-/
import Derived.Test.YtoeoehbpahodnaaPKPlain
import Derived.Test.YtoeoehbpahodnaaPSwapJxA
import Derived.Deep.CutBlock
namespace Go.Proofs.Ytoeoehbpahodnaa
set_option linter.unusedSimpArgs false
set_option linter.unusedVariables false
set_option maxHeartbeats 600000
open Go.RowKit

theorem RefRep.vars {F : Nat → Prop} {w : World} {mb : Nat} {M : St} {L : List (Int × Rec)} (h : RefRep F w mb M L) : w.cell? ⟨mb, 3, none⟩ = some (.int .i64 M.n) := by
  obtain ⟨⟨lv, gv, h1, -⟩, -⟩ := h
  rw [cell_of_row w mb 3 _ _ _ h1]
  rfl

end Go.Proofs.Ytoeoehbpahodnaa

namespace Go.Proofs.Ytoeoehbpahodnaa
set_option linter.unusedSimpArgs false
set_option linter.unusedVariables false
set_option maxHeartbeats 600000
open Go.RowKit

theorem RefRep.node {F : Nat → Prop} {w : World} {mb : Nat} {M : St} {L : List (Int × Rec)} (h : RefRep F w mb M L) {id : Int} {r : Rec} {D : Nat} (hD : L[D]? = some (id, r)) :
    ∃ lb cap, w.cell? ⟨mb, 0, none⟩ = some (.slice (some ⟨lb, 0, none⟩) L.length cap) ∧ D < L.length ∧ L.length ≤ 1048576 ∧
      w.cell? ⟨lb, D * 8 + 1, none⟩ = some (.int .u8 r.form) ∧ w.cell? ⟨lb, D * 8 + 2, none⟩ = some (.int .u8 r.top) ∧ w.cell? ⟨lb, D * 8 + 3, none⟩ = some (.int .u8 r.bot) ∧ w.cell? ⟨lb, D * 8 + 4, none⟩ = some (.int .u8 r.lo.tag) ∧
      w.cell? ⟨lb, D * 8 + 5, none⟩ = some (.int .u32 r.lo.to) ∧ w.cell? ⟨lb, D * 8 + 6, none⟩ = some (.int .u8 r.hi.tag) ∧ w.cell? ⟨lb, D * 8 + 7, none⟩ = some (.int .u32 r.hi.to) := by
  have hl := (List.getElem?_eq_some_iff.1 hD).1
  obtain ⟨a, cap, c0, hc⟩ := h.cell
  obtain ⟨lb, rfl, _, hv⟩ := hc (by omega)
  have g := fun j (hj : j < 8) => hv D _ hD j hj
  exact ⟨lb, cap, c0, hl, h.le, (g 1 (by omega)).trans rfl, (g 2 (by omega)).trans rfl, (g 3 (by omega)).trans rfl, (g 4 (by omega)).trans rfl, (g 5 (by omega)).trans rfl, (g 6 (by omega)).trans rfl, (g 7 (by omega)).trans rfl⟩

end Go.Proofs.Ytoeoehbpahodnaa

namespace Go.Proofs.Ytoeoehbpahodnaa
set_option linter.unusedSimpArgs false
set_option linter.unusedVariables false
set_option maxHeartbeats 600000
open Go.RowKit

def sameL : List Bool → List Bool → Bool
  | [], [] => true
  | a :: s, b :: t => decide (a = b) && sameL s t
  | _, _ => false

theorem sameL_iff : ∀ {s t : List Bool}, sameL s t = true ↔ s = t
  | [], [] => by simp [sameL]
  | a :: s, b :: t => by simp [sameL, sameL_iff]
  | [], b :: t => by simp [sameL]
  | a :: s, [] => by simp [sameL]

theorem sameL_len {s t : List Bool} (h : s.length ≠ t.length) : sameL s t = false := by
  cases hs : sameL s t with
  | false => rfl
  | true => exact absurd (congrArg List.length (sameL_iff.1 hs)) h

theorem sameL_drop {s t : List Bool} {i : Nat} {a b : Bool} (ha : s[i]? = some a) (hb : t[i]? = some b) : sameL (s.drop i) (t.drop i) = (decide (a = b) && sameL (s.drop (i + 1)) (t.drop (i + 1))) := by
  obtain ⟨hi, ha⟩ := List.getElem?_eq_some_iff.1 ha
  obtain ⟨hj, hb⟩ := List.getElem?_eq_some_iff.1 hb
  rw [List.drop_eq_getElem_cons hi, List.drop_eq_getElem_cons hj, ha, hb]
  rfl

theorem same_calls {B B2 off off2 : Nat} {ss ts : List Bool} (cap cap2 : Nat) (w : World) (h1 : TabAt w B off ss) (h2 : TabAt w B2 off2 ts) (hl1 : ss.length ≤ 1048576) (hl2 : ts.length ≤ 1048576) :
    Calls Try.prog 45 #[.slice (some ⟨B, off, none⟩) ss.length cap, .slice (some ⟨B2, off2, none⟩) ts.length cap2] w fun e w' => e = .returned (.bool (sameL ss ts)) ∧ Keeps w w' := by
  by_cases hne : ss.length = ts.length
  · obtain ⟨N, hN⟩ : ∃ N, N = ss.length := ⟨_, rfl⟩
    have hM : N = ts.length := hN.trans hne
    rw [← hM, ← hN]
    rw [← hN] at hl1
    have H1 := Lib.hid h1
    have H2 := Lib.hid h2
    have HN := Lib.hid hN
    have HM := Lib.hid hM
    clear h1 h2 hN hM hne hl2
    go_enter Try.func45, Try.ntmps45
    go_wp2
    go_loopg [5] N (fun gk s5 wr => ∃ d : Nat, s5 = .int .i64 (d : Int) ∧ d + gk = N ∧ sameL (ss.drop d) (ts.drop d) = sameL ss ts ∧ Keeps w wr)
    case atStart => exact ⟨0, rfl, by omega, rfl, by (exact kp)⟩
    case round =>
      obtain ⟨d, rfl, hd, hn, hk⟩ := hrel
      have HNN := Lib.hid hn
      clear hn
      by_cases hlt : d < N
      · obtain ⟨a, ha⟩ : ∃ b, ss[d]? = some b := ⟨_, List.getElem?_eq_getElem (by rw [← HN.out]; exact hlt)⟩
        obtain ⟨b, hb⟩ : ∃ b, ts[d]? = some b := ⟨_, List.getElem?_eq_getElem (by rw [← HM.out]; exact hlt)⟩
        have c0 := hk.cell (H1.out d a ha)
        have c1 := hk.cell (H2.out d b hb)
        have hdr := sameL_drop ha hb
        have HD := Lib.hid hdr
        have i0 : (0 : Int) ≤ (d : Int) := by omega
        have i1 : (d : Int) < (N : Int) := by omega
        clear hdr ha hb
        cases a <;> cases b
        case false.false =>
          go_wp2_with fail
          go_quiet (fail)
          go_wp2
          go_roundg (gk - 1)
          case rel => exact ⟨d + 1, by simp, by omega, by rw [← HNN.out, HD.out]; rfl, by (exact kp)⟩
          case measure => omega
        case true.true =>
          go_wp2_with fail
          go_quiet (fail)
          go_wp2
          go_roundg (gk - 1)
          case rel => exact ⟨d + 1, by simp, by omega, by rw [← HNN.out, HD.out]; rfl, by (exact kp)⟩
          case measure => omega
        all_goals
          go_wp2_with fail
          go_quiet (fail)
          go_wp2
          go_ret
          exact ⟨by rw [← HNN.out, HD.out]; rfl, by (exact kp)⟩
      · have hg0 : d = N := by omega
        have hh : sameL ss ts = true := by rw [← HNN.out, List.drop_of_length_le (by rw [← HN.out]; omega), List.drop_of_length_le (by rw [← HM.out]; omega)]; rfl
        have HH := Lib.hid hh
        clear hg0 hh
        go_wp2_with fail
        go_ret
        exact ⟨by rw [HH.out]; rfl, hk⟩
  · have hf := sameL_len hne
    obtain ⟨N, hN⟩ : ∃ N, N = ss.length := ⟨_, rfl⟩
    obtain ⟨K, hK⟩ : ∃ K, K = ts.length := ⟨_, rfl⟩
    rw [hf]
    rw [← hN, ← hK] at hne ⊢
    have gne : ((N : Int) != (K : Int)) = true := by simp; omega
    clear h1 h2 hl1 hl2 hN hK hf hne
    go_enter Try.func45, Try.ntmps45
    go_wp2
    go_ret
    exact ⟨rfl, by (exact kp)⟩

end Go.Proofs.Ytoeoehbpahodnaa

namespace Go.Proofs.Ytoeoehbpahodnaa
set_option linter.unusedSimpArgs false
set_option linter.unusedVariables false
set_option maxHeartbeats 600000
open Go.RowKit

set_option maxRecDepth 100000 in
theorem stays_low (sb mb : Nat) (a : Option Addr) (len cap : Nat) (ids : Nat → Int) (rs : Nat → Rec) (w : World) (hl : len ≤ 1048576)
    (c0 : w.cell? ⟨mb, 0, none⟩ = some (.slice a len cap))
    (hv : ∀ i, i < len → ∃ lb, a = some ⟨lb, 0, none⟩ ∧ ∀ j, j < 8 → w.cell? ⟨lb, i * 8 + j, none⟩ = (nodeVals (ids i, rs i))[j]?)
    (hget : ∀ i, i < len → ∀ W, Keeps w W → Calls Try.prog 28 #[.pointer (some ⟨sb, 0, none⟩), .int .u32 (ids i)] W fun e w' => e = .returned (.tuple #[.agg #[.int .u8 (rs i).form, .int .u8 (rs i).top, .int .u8 (rs i).bot, .int .u8 (rs i).lo.tag, .int .u32 (rs i).lo.to, .int .u8 (rs i).hi.tag, .int .u32 (rs i).hi.to], .bool true]) ∧ Keeps W w') :
    Calls Try.prog 42 #[.pointer (some ⟨sb, 0, none⟩), .pointer (some ⟨mb, 0, none⟩)] w fun e w' => e = .returned (.bool true) ∧ Keeps w w' := by
  have HV := Lib.hid hv
  have HG := Lib.hid hget
  clear hv hget
  go_enter Try.func42, Try.ntmps42
  go_wp2_with fail
  go_loopg [5] len (fun gk i wr => ∃ d : Nat, d + gk = len ∧ i = .int .i64 (d : Int) ∧ Keeps w wr)
  case atStart => exact ⟨0, by omega, rfl, Keeps.refl _⟩
  case round =>
    obtain ⟨d, hd, rfl, hk⟩ := hrel
    have i0 := hk.cell c0
    have hmb : mb < wr.heap.size := lt_of_cell i0
    by_cases hlt : d < len
    · obtain ⟨lb, rfl, hc⟩ := HV.out d hlt
      have hsv := fun j hj => hk.cell ((hc j hj).trans (List.getElem?_eq_getElem (by rw [nodeVals_length]; exact hj)))
      have s0 : wr.cell? ⟨lb, d * 8, none⟩ = some (.int .u32 (ids d)) := hsv 0 (by omega)
      have s1 : wr.cell? ⟨lb, d * 8 + 1, none⟩ = some (.int .u8 (rs d).form) := hsv 1 (by omega)
      have s2 : wr.cell? ⟨lb, d * 8 + 2, none⟩ = some (.int .u8 (rs d).top) := hsv 2 (by omega)
      have s3 : wr.cell? ⟨lb, d * 8 + 3, none⟩ = some (.int .u8 (rs d).bot) := hsv 3 (by omega)
      have s4 : wr.cell? ⟨lb, d * 8 + 4, none⟩ = some (.int .u8 (rs d).lo.tag) := hsv 4 (by omega)
      have s5 : wr.cell? ⟨lb, d * 8 + 5, none⟩ = some (.int .u32 (rs d).lo.to) := hsv 5 (by omega)
      have s6 : wr.cell? ⟨lb, d * 8 + 6, none⟩ = some (.int .u8 (rs d).hi.tag) := hsv 6 (by omega)
      have s7 : wr.cell? ⟨lb, d * 8 + 7, none⟩ = some (.int .u32 (rs d).hi.to) := hsv 7 (by omega)
      have hlb : lb < wr.heap.size := lt_of_cell s0
      clear hsv hc
      have HGd := Lib.hid (HG.out d hlt)
      have hq : ∀ W, (binOp .neq 74 (.agg #[.int .u8 (rs d).form, .int .u8 (rs d).top, .int .u8 (rs d).bot, .int .u8 (rs d).lo.tag, .int .u32 (rs d).lo.to, .int .u8 (rs d).hi.tag, .int .u32 (rs d).hi.to]) (.agg #[.int .u8 (rs d).form, .int .u8 (rs d).top, .int .u8 (rs d).bot, .int .u8 (rs d).lo.tag, .int .u32 (rs d).lo.to, .int .u8 (rs d).hi.tag, .int .u32 (rs d).hi.to])).run Try.prog W = .ok (.bool false) W := fun W => by rw [run_neq_rec]; simp
      go_wp2_with (go_at_call 28; refine (HGd.out _ hk).mono ?_; rintro e w2 ⟨rfl, hb⟩; have hk2 := hk.trans hb; have j0 := hb.cell i0; have v0 := hb.cell s0; have v1 := hb.cell s1; have v2 := hb.cell s2; have v3 := hb.cell s3; have v4 := hb.cell s4; have v5 := hb.cell s5; have v6 := hb.cell s6; have v7 := hb.cell s7; have hsz := hb.size; have hmb2 : mb < w2.heap.size := (by omega); have hlb2 : lb < w2.heap.size := (by omega))
      clear i0 s0 s1 s2 s3 s4 s5 s6 s7
      go_quiet (fail)
      go_wp2
      go_roundg (gk - 1)
      case rel => exact ⟨d + 1, by omega, by simp, by (exact kp)⟩
      case measure => omega
    · have hdl : ¬ (d : Int) < (len : Int) := by omega
      go_wp2
      go_ret
      exact ⟨rfl, by (exact kp)⟩

theorem stays_calls {F G : Nat → Prop} {w : World} {sb mb : Nat} {M M' : St} {L : List (Int × Rec)} (hS : StoreRep F w sb M') (hR : RefRep G w mb M L) (hE : Ext M M') :
    Calls Try.prog 42 #[.pointer (some ⟨sb, 0, none⟩), .pointer (some ⟨mb, 0, none⟩)] w fun e w' => e = .returned (.bool true) ∧ Keeps w w' := by
  obtain ⟨a, cap, c0, hc⟩ := hR.cell
  have hat : ∀ i, i < L.length → look M'.cs (L[i]?.getD (0, Rec.zero)).1 = some (L[i]?.getD (0, Rec.zero)).2 := fun i hi => by
    rw [List.getElem?_eq_getElem hi]
    exact hE.sub _ _ ((hR.mem _ _).1 (List.getElem_mem hi))
  refine stays_low sb mb a L.length cap (fun i => (L[i]?.getD (0, Rec.zero)).1) (fun i => (L[i]?.getD (0, Rec.zero)).2) w hR.le c0 ?_ ?_
  · intro i hi
    obtain ⟨lb, rfl, _, hv⟩ := hc (by omega)
    refine ⟨lb, rfl, fun j hj => ?_⟩
    rw [hv i _ (List.getElem?_eq_getElem hi) j hj, List.getElem?_eq_getElem hi]
    rfl
  · intro i hi W hW
    have hl := hat i hi
    have hid := (look_some hl).2.1
    have hfew : M'.cs.length ≤ 1048576 := by
      obtain ⟨⟨ab, ib, ts, Fa, Fi, _, h2, _⟩, _⟩ := hS
      exact h2.few
    have := store_get (hS.keeps hW) (L[i]?.getD (0, Rec.zero)).1 (by omega)
    rw [hl] at this
    exact this

end Go.Proofs.Ytoeoehbpahodnaa
