/-
  The walk of index.find.
-/
import Derived.Test.YtimffidpbcflaaaIndex
import Derived.Test.YtimffidpbcflaaaRecEq
import Derived.Deep.LoopGhost
namespace Go.Proofs.Ytimffidpbcflaaa
set_option linter.unusedSimpArgs false
set_option linter.unusedVariables false
set_option maxHeartbeats 600000
open Go.RowKit

set_option maxRecDepth 100000 in
theorem find_calls (ib tb len cap p D : Nat) (r : Rec) (hr : r.ok) (ts : List (Option (Rec × Int))) (w : World) (h0 : w.cell? ⟨ib, 0, none⟩ = some (.slice (some ⟨tb, 0, none⟩) len cap)) (h8 : 8 ≤ len) (h22 : len ≤ 4194304) (hp : len = 2 ^ p)
    (hv : ∀ i c, ts[i]? = some c → ∀ j, j < 9 → w.cell? ⟨tb, i * 9 + j, none⟩ = (slotVals c)[j]?) (hts : ts.length = len)
    (hD : D < len) (hgo : ∀ d, d < D → ∃ r' id, ts[(homeN r len + d) % len]? = some (some (r', id)) ∧ r' ≠ r)
    (hstop : ts[(homeN r len + D) % len]? = some none ∨ ∃ id, ts[(homeN r len + D) % len]? = some (some (r, id))) :
    Calls Try.prog 108 #[.pointer (some ⟨ib, 0, none⟩), .agg #[.int .u8 r.form, .int .u8 r.top, .int .u8 r.bot, .int .u8 r.lo.tag, .int .u32 r.lo.to, .int .u8 r.hi.tag, .int .u32 r.hi.to]] w fun e w' =>
      e = .returned (.int .i64 (((homeN r len + D) % len : Nat) : Int)) ∧ Keeps w w' := by
  have hib : ib < w.heap.size := lt_of_cell h0
  have hp' := Lib.hid hp
  have hts' := Lib.hid hts
  clear hp hts
  have HV := Lib.hid hv
  have HG := Lib.hid hgo
  have HS := Lib.hid hstop
  clear hv hgo hstop
  go_enter Try.func108, Try.ntmps108
  go_wp2_with (first | (go_at_call 112; refine (home_calls ib tb len cap p r hr _ (by simp [go_sem, h0, hib]) h8 h22 hp'.out).mono ?_; rintro e w1 ⟨rfl, hb⟩; have hk : Keeps w w1 := (by (repeat (first | with_reducible exact Keeps.refl _ | with_reducible assumption | with_reducible refine Keeps.alloc ?_ _ | with_reducible refine Keeps.drewN ?_ _ | with_reducible refine Keeps.drew ?_ | refine Keeps.setCell ?_ (by dsimp only; omega) _ | with_reducible refine Keeps.trans ?_ (by assumption)))); obtain ⟨hc, hf⟩ := hb.cells; obtain ⟨hcl, hfl⟩ := hk.cells; have hsz := hb.size; (try simp only [World.size_alloc, World.size_drewN, World.size_drew, World.size_setCell] at hsz); have hsl := hk.size; have hz0 : w.heap.size < w1.heap.size := (by omega)) | fail)
  have kb : Keeps (w.alloc (.cells #[.int .u8 r.form, .int .u8 r.top, .int .u8 r.bot, .int .u8 r.lo.tag, .int .u32 r.lo.to, .int .u8 r.hi.tag, .int .u32 r.hi.to] 106)) w1 := hb
  have hbox := box7 kb
  have i0 := hk.cell h0
  clear hc hf hcl hfl hsz hsl hz0
  have HB := Lib.hid hbox
  have HI := Lib.hid i0
  clear hbox i0 h0
  go_loopg [5] D (fun gk i wr => ∃ d k : Nat, d + gk = D ∧ Hid (k = (homeN r len + d) % len) ∧ k < len ∧ i = .int .i64 (k : Int) ∧ Keeps w1 wr)
  case atStart => exact ⟨0, homeN r len, by omega, (by show _ = _; rw [Nat.add_zero, Nat.mod_eq_of_lt]; unfold homeN; exact Nat.mod_lt _ (by omega)), (by unfold homeN; exact Nat.mod_lt _ (by omega)), rfl, Keeps.refl _⟩
  case round =>
    obtain ⟨d, k, hd, hk', hkl, rfl, hkw⟩ := hrel
    obtain ⟨q0, q1, q2, q3, q4, q5, q6⟩ := hkw.cell7 HB.out
    have i0 := hkw.cell HI.out
    have hki : (k : Int) < (len : Int) := by omega
    by_cases hg : gk = 0
    · subst hg
      rcases HS.out with hs | ⟨id, hs⟩
      · have hs8 := (hkw.cell (hk.cell ((HV.out _ _ hs 8 (by omega)).trans rfl)))
        have ed : d = D := by omega
        have hs8' : wr.cell? ⟨tb, k * 9 + 8, none⟩ = some (.bool false) := by rw [hk'.out, ed]; exact hs8
        have ed := Lib.hid ed
        clear hs8 hd
        go_wp2_with fail
        go_quiet (fail)
        go_wp2
        go_ret
        have ed2 : k = (homeN r len + D) % len := by rw [hk'.out, ed.out]
        refine ⟨?_, by (repeat (first | with_reducible exact Keeps.refl _ | with_reducible assumption | with_reducible refine Keeps.alloc ?_ _ | with_reducible refine Keeps.drewN ?_ _ | with_reducible refine Keeps.drew ?_ | refine Keeps.setCell ?_ (by dsimp only; omega) _ | with_reducible refine Keeps.trans ?_ (by assumption)))⟩
        rw [← ed2]
        rfl
      · have hsv := fun j hj => hkw.cell (hk.cell ((HV.out _ _ hs j hj).trans (List.getElem?_eq_getElem (by rw [slotVals_length]; exact hj))))
        have ed : d = D := by omega
        rw [← ed, ← hk'.out] at hsv
        have s0 := hsv 0 (by omega)
        have s1 := hsv 1 (by omega)
        have s2 := hsv 2 (by omega)
        have s3 := hsv 3 (by omega)
        have s4 := hsv 4 (by omega)
        have s5 := hsv 5 (by omega)
        have s6 := hsv 6 (by omega)
        have s8 := hsv 8 (by omega)
        simp [slotVals, recVals] at s0 s1 s2 s3 s4 s5 s6 s8
        have ed := Lib.hid ed
        clear hsv hd
        go_wp2_with fail
        go_quiet (fail)
        go_wp2
        go_ret
        have ed2 : k = (homeN r len + D) % len := by rw [hk'.out, ed.out]
        refine ⟨?_, by (repeat (first | with_reducible exact Keeps.refl _ | with_reducible assumption | with_reducible refine Keeps.alloc ?_ _ | with_reducible refine Keeps.drewN ?_ _ | with_reducible refine Keeps.drew ?_ | refine Keeps.setCell ?_ (by dsimp only; omega) _ | with_reducible refine Keeps.trans ?_ (by assumption)))⟩
        rw [← ed2]
        rfl
    · obtain ⟨r', id, hs, hne⟩ := HG.out d (by omega)
      have hsv := fun j hj => hkw.cell (hk.cell ((HV.out _ _ hs j hj).trans (List.getElem?_eq_getElem (by rw [slotVals_length]; exact hj))))
      rw [← hk'.out] at hsv
      have s0 := hsv 0 (by omega)
      have s1 := hsv 1 (by omega)
      have s2 := hsv 2 (by omega)
      have s3 := hsv 3 (by omega)
      have s4 := hsv 4 (by omega)
      have s5 := hsv 5 (by omega)
      have s6 := hsv 6 (by omega)
      have s8 := hsv 8 (by omega)
      simp [slotVals, recVals] at s0 s1 s2 s3 s4 s5 s6 s8
      have hq : ∀ W, (binOp .neq 106 (.agg #[.int .u8 r'.form, .int .u8 r'.top, .int .u8 r'.bot, .int .u8 r'.lo.tag, .int .u32 r'.lo.to, .int .u8 r'.hi.tag, .int .u32 r'.hi.to]) (.agg #[.int .u8 r.form, .int .u8 r.top, .int .u8 r.bot, .int .u8 r.lo.tag, .int .u32 r.lo.to, .int .u8 r.hi.tag, .int .u32 r.hi.to])).run Try.prog W = .ok (.bool true) W := fun W => by rw [run_neq_key]; simp [hne]
      have hd' := Lib.hid hd
      have hg' := Lib.hid hg
      clear hsv hs hne hd hg
      go_wp2_with fail
      go_quiet (fail)
      go_wp2_with (first | (go_at_call 111; refine (next_calls ib tb len cap k p _ (by simpa using i0) h8 h22 hkl hp'.out).mono ?_; rintro e w2 ⟨rfl, rfl⟩) | fail)
      go_roundg (gk - 1)
      case rel => exact ⟨d + 1, (k + 1) % len, by have := hd'.out; have := hg'.out; omega, (by show _ = _; rw [hk'.out]; simp [Nat.add_assoc, Nat.mod_add_mod]), Nat.mod_lt _ (by omega), rfl, by (repeat (first | with_reducible exact Keeps.refl _ | with_reducible assumption | with_reducible refine Keeps.alloc ?_ _ | with_reducible refine Keeps.drewN ?_ _ | with_reducible refine Keeps.drew ?_ | refine Keeps.setCell ?_ (by dsimp only; omega) _ | with_reducible refine Keeps.trans ?_ (by assumption)))⟩
      case measure => have := hg'.out; omega

end Go.Proofs.Ytimffidpbcflaaa
