/-
  The document's store (ramageref11): how it lies in memory; At, Has.
-/
import Derived.Test.YtimffidpbcflaaaSFind2
import Derived.Deep.LoopGhost
namespace Go.Proofs.Ytimffidpbcflaaa
set_option linter.unusedSimpArgs false
set_option linter.unusedVariables false
set_option maxHeartbeats 600000
open Go.RowKit

def nodeVals (p : Int × Rec) : List Value := .int .u32 p.1 :: recVals p.2

theorem nodeVals_length (p : Int × Rec) : (nodeVals p).length = 8 := rfl

set_option maxRecDepth 100000 in
theorem ref_at_low (mb : Nat) (a : Option Addr) (len cap D : Nat) (id : Int) (ids : Nat → Int) (w : World) (h0 : w.cell? ⟨mb, 0, none⟩ = some (.slice a len cap)) (hl : len ≤ 1048576)
    (hv : ∀ i, i < len → ∃ lb, a = some ⟨lb, 0, none⟩ ∧ w.cell? ⟨lb, i * 8, none⟩ = some (.int .u32 (ids i)))
    (hD : D ≤ len) (hgo : ∀ d, d < D → ids d ≠ id) (hstop : D < len → ids D = id) :
    Calls Try.prog 60 #[.pointer (some ⟨mb, 0, none⟩), .int .u32 id] w fun e w' => e = .returned (.int .i64 (if D < len then (D : Int) else -1)) ∧ w = w' := by
  have HV := Lib.hid hv
  have HG := Lib.hid hgo
  have HS := Lib.hid hstop
  clear hv hgo hstop
  go_enter Try.func60, Try.ntmps60
  go_wp2
  go_loopg [5] D (fun gk i wr => ∃ d : Nat, d + gk = D ∧ i = .int .i64 (d : Int) ∧ w = wr)
  case atStart => exact ⟨0, by omega, rfl, rfl⟩
  case round =>
    obtain ⟨d, hd, rfl, rfl⟩ := hrel
    by_cases hg : gk = 0
    · subst hg
      have ed : d = D := by omega
      subst ed
      by_cases hlt : d < len
      · obtain ⟨lb, rfl, hc⟩ := HV.out d hlt
        rw [HS.out hlt] at hc
        go_wp2
        go_ret
        exact ⟨by simp [hlt], rfl⟩
      · go_wp2
        go_ret
        exact ⟨by simp [hlt], rfl⟩
    · have hlt : d < len := by omega
      obtain ⟨lb, rfl, hc⟩ := HV.out d hlt
      have hne := HG.out d (by omega)
      go_wp2
      go_roundg (gk - 1)
      case rel => exact ⟨d + 1, by omega, by simp, rfl⟩
      case measure => omega

set_option maxRecDepth 100000 in
theorem ref_has_low (mb : Nat) (a : Option Addr) (len cap D : Nat) (r : Rec) (ids : Nat → Int) (rs : Nat → Rec) (w : World) (h0 : w.cell? ⟨mb, 0, none⟩ = some (.slice a len cap)) (hl : len ≤ 1048576)
    (hv : ∀ i, i < len → ∃ lb, a = some ⟨lb, 0, none⟩ ∧ ∀ j, j < 8 → w.cell? ⟨lb, i * 8 + j, none⟩ = (nodeVals (ids i, rs i))[j]?)
    (hD : D ≤ len) (hgo : ∀ d, d < D → rs d ≠ r) (hstop : D < len → rs D = r) :
    Calls Try.prog 98 #[.pointer (some ⟨mb, 0, none⟩), .agg #[.int .u8 r.form, .int .u8 r.top, .int .u8 r.bot, .int .u8 r.lo.tag, .int .u32 r.lo.to, .int .u8 r.hi.tag, .int .u32 r.hi.to]] w fun e w' => e = .returned (.int .u32 (if D < len then ids D else 0)) ∧ Keeps w w' := by
  have hmb : mb < w.heap.size := lt_of_cell h0
  have HV := Lib.hid hv
  have HG := Lib.hid hgo
  have HS := Lib.hid hstop
  clear hv hgo hstop
  go_enter Try.func98, Try.ntmps98
  go_wp2
  have i0 : (w.alloc (.cells #[.int .u8 r.form, .int .u8 r.top, .int .u8 r.bot, .int .u8 r.lo.tag, .int .u32 r.lo.to, .int .u8 r.hi.tag, .int .u32 r.hi.to] 58)).cell? ⟨mb, 0, none⟩ = some (.slice a len cap) := by simp [go_sem, hmb, h0]
  have HI := Lib.hid i0
  clear i0
  go_loopg [5] D (fun gk i wr => ∃ d : Nat, d + gk = D ∧ i = .int .i64 (d : Int) ∧ Keeps (w.alloc (.cells #[.int .u8 r.form, .int .u8 r.top, .int .u8 r.bot, .int .u8 r.lo.tag, .int .u32 r.lo.to, .int .u8 r.hi.tag, .int .u32 r.hi.to] 58)) wr)
  case atStart => exact ⟨0, by omega, rfl, Keeps.refl _⟩
  case round =>
    obtain ⟨d, hd, rfl, hk⟩ := hrel
    obtain ⟨q0, q1, q2, q3, q4, q5, q6⟩ := box7 hk
    have i0 := hk.cell HI.out
    have hw : Keeps w wr := ((Keeps.refl w).alloc _).trans hk
    by_cases hlt : d < len
    · obtain ⟨lb, rfl, hc⟩ := HV.out d hlt
      have hsv := fun j hj => hw.cell ((hc j hj).trans (List.getElem?_eq_getElem (by rw [nodeVals_length]; exact hj)))
      have s0 := hsv 0 (by omega)
      have s1 := hsv 1 (by omega)
      have s2 := hsv 2 (by omega)
      have s3 := hsv 3 (by omega)
      have s4 := hsv 4 (by omega)
      have s5 := hsv 5 (by omega)
      have s6 := hsv 6 (by omega)
      have s7 := hsv 7 (by omega)
      simp [nodeVals, recVals] at s0 s1 s2 s3 s4 s5 s6 s7
      clear hsv hc
      by_cases hg : gk = 0
      · subst hg
        have ed : d = D := by omega
        subst ed
        have er := HS.out hlt
        have hq : ∀ W, (binOp .eql 58 (.agg #[.int .u8 (rs d).form, .int .u8 (rs d).top, .int .u8 (rs d).bot, .int .u8 (rs d).lo.tag, .int .u32 (rs d).lo.to, .int .u8 (rs d).hi.tag, .int .u32 (rs d).hi.to]) (.agg #[.int .u8 r.form, .int .u8 r.top, .int .u8 r.bot, .int .u8 r.lo.tag, .int .u32 r.lo.to, .int .u8 r.hi.tag, .int .u32 r.hi.to])).run Try.prog W = .ok (.bool true) W := fun W => by rw [run_eql_rec]; simp [er]
        go_wp2_with fail
        go_quiet (fail)
        go_wp2
        go_ret
        exact ⟨by simp [hlt], by (repeat (first | with_reducible exact Keeps.refl _ | with_reducible assumption | with_reducible refine Keeps.alloc ?_ _ | with_reducible refine Keeps.drewN ?_ _ | with_reducible refine Keeps.drew ?_ | refine Keeps.setCell ?_ (by dsimp only; omega) _ | with_reducible refine Keeps.trans ?_ (by assumption)))⟩
      · have hne := HG.out d (by omega)
        have hq : ∀ W, (binOp .eql 58 (.agg #[.int .u8 (rs d).form, .int .u8 (rs d).top, .int .u8 (rs d).bot, .int .u8 (rs d).lo.tag, .int .u32 (rs d).lo.to, .int .u8 (rs d).hi.tag, .int .u32 (rs d).hi.to]) (.agg #[.int .u8 r.form, .int .u8 r.top, .int .u8 r.bot, .int .u8 r.lo.tag, .int .u32 r.lo.to, .int .u8 r.hi.tag, .int .u32 r.hi.to])).run Try.prog W = .ok (.bool false) W := fun W => by rw [run_eql_rec]; simp [hne]
        go_wp2_with fail
        go_quiet (fail)
        go_wp2
        go_roundg (gk - 1)
        case rel => exact ⟨d + 1, by omega, by simp, by (repeat (first | with_reducible exact Keeps.refl _ | with_reducible assumption | with_reducible refine Keeps.alloc ?_ _ | with_reducible refine Keeps.drewN ?_ _ | with_reducible refine Keeps.drew ?_ | refine Keeps.setCell ?_ (by dsimp only; omega) _ | with_reducible refine Keeps.trans ?_ (by assumption)))⟩
        case measure => omega
    · have ed : d = D := by omega
      subst ed
      go_wp2
      go_ret
      exact ⟨by simp [hlt], by (repeat (first | with_reducible exact Keeps.refl _ | with_reducible assumption | with_reducible refine Keeps.alloc ?_ _ | with_reducible refine Keeps.drewN ?_ _ | with_reducible refine Keeps.drew ?_ | refine Keeps.setCell ?_ (by dsimp only; omega) _ | with_reducible refine Keeps.trans ?_ (by assumption)))⟩

end Go.Proofs.Ytimffidpbcflaaa
