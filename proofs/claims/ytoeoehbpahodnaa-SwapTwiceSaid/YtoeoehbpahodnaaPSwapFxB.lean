/-
  ramageref26.Moved: the order behind a move.
-/
import Derived.Test.YtoeoehbpahodnaaPSwapGxB
import Derived.Test.YtoeoehbpahodnaaPSwapV
namespace Go.Proofs.Ytoeoehbpahodnaa
set_option linter.unusedSimpArgs false
set_option linter.unusedVariables false
set_option maxHeartbeats 600000
open Go.RowKit

def upL (a d : Nat) : List Nat := (List.range d).map (fun i => a + i)

def dnL (a d : Nat) : List Nat := (List.range d).map (fun i => a - 1 - i)

theorem upL_succ (a d : Nat) : upL a (d + 1) = upL a d ++ [a + d] := by unfold upL; rw [List.range_succ, List.map_append]; rfl

theorem dnL_succ (a d : Nat) : dnL a (d + 1) = dnL a d ++ [a - 1 - d] := by unfold dnL; rw [List.range_succ, List.map_append]; rfl

theorem moveL_eq (a b : Nat) : moveL a b = upL a (b - a) ++ dnL a (a - b) := by
  unfold moveL
  split
  · rw [show a - b = 0 from by omega]; simp [upL, dnL]
  · rw [show b - a = 0 from by omega]; simp [upL, dnL]

set_option maxRecDepth 100000 in
set_option maxHeartbeats 1000000 in
theorem moved_calls (a0 : Option Addr) (cap : Nat) (ps : List Int) (w : World) (h : IntsAt w a0 ps) (hl : ps.length ≤ 16) (a b : Nat) (ha : a < ps.length) (hb : b < ps.length) :
    Calls Try.prog 11 #[.slice a0 ps.length cap, .int .i64 (a : Int), .int .i64 (b : Int)] w fun e w' => ∃ a' cap', e = .returned (.slice a' ps.length cap') ∧ RowV w.heap.size w' a' (runL ps (moveL a b)) ∧ Keeps w w' := by
  obtain ⟨i0, hi, hz0, hz1, hz2⟩ := info_parts info_int
  have hme := moveL_eq a b
  obtain ⟨u, hu⟩ : ∃ u, u = b - a := ⟨_, rfl⟩
  obtain ⟨t, ht⟩ : ∃ t, t = a - b := ⟨_, rfl⟩
  rw [← hu, ← ht] at hme
  obtain ⟨b0, off, rfl, hc0⟩ := h 0 (ps[0]'(by omega)) (List.getElem?_eq_getElem (by omega))
  have hcells : ∀ j u, (ps.map (Value.int .i64))[j]? = some u → w.cell? ((⟨b0, off, none⟩ : Addr).add j) = some u := fun j u hj => by
    rw [List.getElem?_map, Option.map_eq_some_iff] at hj
    obtain ⟨x, hx, rfl⟩ := hj
    obtain ⟨b, off, ha, hc⟩ := h j x hx
    cases ha
    have hadd : (⟨b0, off, none⟩ : Addr).add j = ⟨b0, off + j, none⟩ := by
      unfold Addr.add
      split
      · rename_i h0
        rw [h0]
        rfl
      · rfl
    rw [hadd]
    exact hc
  have hst := fun (a' : Option Addr) (cap' : Nat) (qs : List Int) (hq : qs.length = ps.length) (lv : Nat) (hlv : lv + 1 < ps.length) (W : World) (hI : IntsAt W a' qs) => by
    have := refStep_calls a' cap' qs W hI (by omega) lv (by omega)
    rw [hq] at this
    exact this
  obtain ⟨N, hN⟩ : ∃ N, N = ps.length := ⟨_, rfl⟩
  rw [← hN] at hl hst ha hb ⊢
  have HS := Lib.hid hst
  have HC := Lib.hid hcells
  have HN := Lib.hid hN
  have HU := Lib.hid hu
  have HT := Lib.hid ht
  have HM := Lib.hid hme
  have h63 : 0 + N ≤ maxLen := by unfold maxLen; omega
  clear h hcells hN hst hu ht hme hc0
  go_enter Try.func11, Try.ntmps11
  go_wp2_with (first
    | (at_builtin; refine wpList_append_fresh rfl _ _ 23 rfl w.heap.size 3 i0 (.int .i64 0) 1 8 Try.underlying23 hi hz0 hz1 hz2 rfl (by decide) (.slice (some ⟨w.heap.size, 0, none⟩) 0 0) 0 [] rfl (owns_none w 3) ⟨b0, off, none⟩ N cap (ps.map (Value.int .i64)) rfl (by rw [List.length_map, ← HN.out, Nat.mul_one]) (fun j u hj => ((Keeps.refl w).alloc _).cell (HC.out j u hj)) (fun u hu => by rw [List.mem_map] at hu; obtain ⟨x, _, rfl⟩ := hu; rfl) h63 (by omega) (by simp) ?_; intro v' w3 hown3 hg3 hnew)
    | fail)
  obtain ⟨a', cap', rfl, ha'⟩ := owns_slice hown3
  have hk3 : Keeps w w3 := by
    have hu : Upd (fun k => k = w.heap.size) (w.alloc (.cells #[] 3)) w3 := ⟨hg3.os, hg3.tape, hg3.output, hg3.size, fun k hk hn => hg3.block k hk (fun e => by simp [Value.ownBlock] at e; exact hn e)⟩
    exact ((((Keeps.refl w).alloc (.cells #[] 3)).upd _).trans' hu).keeps (fun k hk e => by omega)
  have hR3 : RowV w.heap.size w3 a' ps := fun hn => by
    obtain ⟨g, rfl⟩ := ha' (by rw [Nat.zero_add, HN.out]; intro e; exact hn (List.length_eq_zero_iff.1 e))
    rw [List.nil_append] at hown3
    obtain ⟨r1, r2⟩ := rowI_owns hown3
    exact ⟨g, rfl, r2, r1⟩
  have HR3 := Lib.hid hR3
  clear hown3 hg3 hnew ha' hR3
  rw [Nat.zero_add]
  go_wp2_with fail
  go_loopg [1, 7] u (fun gk s1 s7 wr => ∃ (d : Nat) (a1 : Option Addr) (cap1 : Nat), s1 = .int .i64 ((a : Int) + (d : Int)) ∧ s7 = .slice a1 N cap1 ∧ d + gk = u ∧ RowV w.heap.size wr a1 (runL ps (upL a d)) ∧ Keeps w wr)
  case atStart => exact ⟨0, a', cap', by simp, by simp, by omega, HR3.out, hk3⟩
  case round =>
    obtain ⟨d, a1, cap1, rfl, rfl, hd, hR, hk⟩ := hrel
    have HR := Lib.hid hR
    clear hR
    by_cases hlt : d < u
    · have q0 : (a : Int) + (d : Int) < (b : Int) := by have e1 : u = b - a := HU.out; omega
      have hs1 := HS.out a1 cap1 (runL ps (upL a d)) (by rw [runL_len, HN.out]) (a + d) (by omega) wr HR.out.ints
      rw [show ((a + d : Nat) : Int) = (a : Int) + (d : Int) from by omega, ← runL_snoc, ← upL_succ] at hs1
      have HS1 := Lib.hid hs1
      clear hs1
      go_wp2_with fail
      refine HS1.out.mono ?_
      rintro e w4 ⟨a4, cap4, rfl, hR4, hk4⟩
      have HR4 := Lib.hid (hR4.low hk.size)
      have hk5 := hk.trans hk4
      clear hR4
      go_wp2_with fail
      go_roundg (gk - 1)
      case rel => exact ⟨d + 1, a4, cap4, congrArg (Value.int .i64) (by omega), rfl, by omega, HR4.out, hk5⟩
      case measure => omega
    · have q0 : ¬ (a : Int) + (d : Int) < (b : Int) := by have e1 : u = b - a := HU.out; omega
      have hd2 : u = d := by omega
      subst hd2
      go_wp2_with fail
      go_loopg [1, 7] t (fun gk s1 s7 wr => ∃ (e : Nat) (a1 : Option Addr) (cap1 : Nat), s1 = .int .i64 ((a : Int) + (u : Int) - (e : Int)) ∧ s7 = .slice a1 N cap1 ∧ e + gk = t ∧ RowV w.heap.size wr a1 (runL ps (upL a u ++ dnL a e)) ∧ Keeps w wr)
      case atStart => exact ⟨0, a1, cap1, by simp, rfl, by omega, by have := HR.out; simpa [dnL] using this, hk⟩
      case round =>
        obtain ⟨e, a2, cap2, rfl, rfl, he, hR, hk⟩ := hrel
        have HR2 := Lib.hid hR
        clear hR
        by_cases hlt2 : e < t
        · have q1 : (b : Int) < (a : Int) + (u : Int) - (e : Int) := by have e1 : u = b - a := HU.out; have e2 : t = a - b := HT.out; omega
          have hu16 : u ≤ 16 := by have e1 : u = b - a := HU.out; omega
          have hs1 := HS.out a2 cap2 (runL ps (upL a u ++ dnL a e)) (by rw [runL_len, HN.out]) (a - 1 - e) (by have e2 : t = a - b := HT.out; omega) wr HR2.out.ints
          rw [show ((a - 1 - e : Nat) : Int) = (a : Int) + (u : Int) - (e : Int) - 1 from by have e1 : u = b - a := HU.out; have e2 : t = a - b := HT.out; omega, ← runL_snoc, List.append_assoc, ← dnL_succ] at hs1
          have HS1 := Lib.hid hs1
          clear hs1
          go_wp2_with fail
          refine HS1.out.mono ?_
          rintro e w4 ⟨a4, cap4, rfl, hR4, hk4⟩
          have HR4 := Lib.hid (hR4.low hk.size)
          have hk5 := hk.trans hk4
          clear hR4
          go_wp2_with fail
          go_roundg (gk - 1)
          case rel => exact ⟨_, a4, cap4, congrArg (Value.int .i64) (by push_cast; omega), rfl, by omega, HR4.out, hk5⟩
          case measure => omega
        · have q1 : ¬ (b : Int) < (a : Int) + (u : Int) - (e : Int) := by have e1 : u = b - a := HU.out; have e2 : t = a - b := HT.out; omega
          have he2 : t = e := by omega
          subst he2
          go_wp2_with fail
          go_ret
          exact ⟨a2, ⟨cap2, by simp⟩, by rw [HM.out]; exact HR2.out, hk⟩

end Go.Proofs.Ytoeoehbpahodnaa
