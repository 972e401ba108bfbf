/-
  '==' and '!=' between edges, records and keys.
-/
import Derived.Test.YtoeoehbpahodnaaPViewT
namespace Go.Proofs.Ytoeoehbpahodnaa
set_option linter.unusedSimpArgs false
set_option linter.unusedVariables false
set_option maxHeartbeats 600000
open Go.RowKit

theorem run_neq_edge (x y : Edge) (w : World) : (binOp .neq 63 (.agg #[.int .u8 x.tag, .int .u32 x.to]) (.agg #[.int .u8 y.tag, .int .u32 y.to])).run Try.prog w = .ok (.bool (!decide (x = y))) w := by
  obtain ⟨d, e⟩ := x
  obtain ⟨d', e'⟩ := y
  by_cases h4 : d = d'
  · by_cases h5 : e = e'
    · simp [go_sem, h4, h5]
    · simp [go_sem, h4, h5]
  · simp [go_sem, h4]

end Go.Proofs.Ytoeoehbpahodnaa

namespace Go.Proofs.Ytoeoehbpahodnaa
set_option linter.unusedSimpArgs false
set_option linter.unusedVariables false
set_option maxHeartbeats 600000
open Go.RowKit

set_option maxRecDepth 100000 in
set_option maxHeartbeats 1000000 in
theorem refStep_calls (a : Option Addr) (cap : Nat) (ps : List Int) (w : World) (h : IntsAt w a ps) (hl : ps.length ≤ 16) (lv : Nat) (hlv : lv + 1 < ps.length) :
    Calls Try.prog 13 #[.slice a ps.length cap, .int .i64 (lv : Int)] w fun e w' => ∃ a' cap', e = .returned (.slice a' ps.length cap') ∧ RowV w.heap.size w' a' (stepL ps lv) ∧ Keeps w w' := by
  have hget := fun j => stepL_get hlv j
  have hlen := stepL_len ps lv
  obtain ⟨qs, hqs⟩ : ∃ qs, qs = stepL ps lv := ⟨_, rfl⟩
  obtain ⟨N, hN⟩ : ∃ N, N = ps.length := ⟨_, rfl⟩
  rw [← hqs] at hget hlen ⊢
  rw [← hN] at hl hlv hlen ⊢
  have H := Lib.hid h
  have HN := Lib.hid hN
  have HG := Lib.hid hget
  have HL := Lib.hid hlen
  obtain ⟨i0, hi, hz0, hz1, hz2⟩ := info_parts info_int
  clear h hN hget hlen hqs
  go_enter Try.func13, Try.ntmps13
  go_wp2
  go_loopg [5, 6] N (fun gk s5 s6 wr => ∃ (d : Nat) (v : Value), s5 = v ∧ s6 = .int .i64 (d : Int) ∧ d + gk = N ∧ wr.ownsRow w.heap.size 3 1 v d ((qs.take d).map (Value.int .i64)) ∧ Keeps w wr)
  case atStart => exact ⟨0, _, rfl, rfl, by omega, World.ownsRow_nil _ _ _ _, by (exact kp)⟩
  case round =>
    obtain ⟨d, v, rfl, rfl, hd, hown, hk⟩ := hrel
    obtain ⟨va, vcap, rfl, hva⟩ := owns_slice hown
    have HROW := Lib.hid hown
    have HVA := Lib.hid hva
    clear hown hva
    by_cases hlt : d < N
    · obtain ⟨y, hy⟩ : ∃ b, qs[d]? = some b := ⟨_, List.getElem?_eq_getElem (by rw [HL.out]; exact hlt)⟩
      have ht := take_snoc hy
      have HT := Lib.hid ht
      have hs := hk.size
      have q2 : d + 1 ≤ maxLen := by unfold maxLen; omega
      have q3 : (d + 1) * 8 ≤ 140737488355328 := by omega
      have hgd := HG.out d
      rw [hy] at hgd
      have HY := Lib.hid hy
      clear ht hy
      have fin : ∀ (v' : Value) (w3 : World) (o : Obj), w3.ownsRow w.heap.size 3 1 v' (d + 1) ((qs.take d).map (Value.int .i64) ++ [Value.int .i64 y]) → (wr.alloc o).grownBy w3 (Value.slice va d vcap).ownBlock →
          w3.ownsRow w.heap.size 3 1 v' (d + 1) ((qs.take (d + 1)).map (Value.int .i64)) ∧ Keeps w w3 := fun v' w3 o h1 h2 => by
        refine ⟨by rw [HT.out, List.map_append]; exact h1, ?_⟩
        have hu : Upd (fun k => (Value.slice va d vcap).ownBlock = some k) (wr.alloc o) w3 := ⟨h2.os, h2.tape, h2.output, h2.size, fun k hk hn => h2.block k hk (fun e => hn e.symm)⟩
        refine (hk.alloc o).new hu (fun k hkk => ?_)
        rcases HROW.out.2 with ⟨e0, _⟩ | ⟨g', cap', cur, e0, hbg, _⟩
        · rw [e0] at hkk; simp [Value.ownBlock] at hkk
        · rw [e0] at hkk; simp [Value.ownBlock] at hkk; omega
      have FIN := Lib.hid fin
      clear fin
      by_cases h1 : d = lv
      · subst h1
        rw [if_pos rfl] at hgd
        obtain ⟨b, off, rfl, hc0⟩ := H.out (d + 1) y hgd.symm
        have hc := hk.cell hc0
        clear hgd hc0
        have hc1 : wr.cell? ⟨b, off + d + 1, none⟩ = some (.int .i64 y) := by rw [Nat.add_assoc]; exact hc
        have ee : ((d : Int) + 1).toNat = d + 1 := by omega
        go_wp2_with (first
          | (at_builtin; refine wpList_append_own _ rfl _ _ 23 rfl w.heap.size 3 i0 (.int .i64 0) 1 8 Try.underlying23 hi hz0 hz1 hz2 rfl (by decide) (.slice va d vcap) d ((qs.take d).map (Value.int .i64)) rfl (HROW.out.alloc _) ⟨wr.heap.size, 0, none⟩ 1 1 [.int .i64 y] rfl rfl (cell_new _ _ _ _ rfl) (by simp [Value.oneCell']) (by exact q2) (by exact q3) (by simp; omega) ?_; intro v3 w3 hown3 hg3 _; obtain ⟨g1, g2⟩ := FIN.out _ _ _ hown3 hg3)
          | fail)
        go_roundg (gk - 1)
        case rel => exact ⟨d + 1, v3, rfl, by simp, by omega, g1, g2⟩
        case measure => omega
      · rw [if_neg h1] at hgd
        by_cases h2 : d = lv + 1
        · subst h2
          rw [if_pos rfl] at hgd
          obtain ⟨b, off, rfl, hc0⟩ := H.out lv y hgd.symm
          have hc := hk.cell hc0
          clear hgd hc0
          go_wp2_with (first
            | (at_builtin; refine wpList_append_own _ rfl _ _ 23 rfl w.heap.size 3 i0 (.int .i64 0) 1 8 Try.underlying23 hi hz0 hz1 hz2 rfl (by decide) (.slice va (lv + 1) vcap) (lv + 1) ((qs.take (lv + 1)).map (Value.int .i64)) rfl (HROW.out.alloc _) ⟨wr.heap.size, 0, none⟩ 1 1 [.int .i64 y] rfl rfl (cell_new _ _ _ _ rfl) (by simp [Value.oneCell']) (by exact q2) (by exact q3) (by simp; omega) ?_; intro v3 w3 hown3 hg3 _; obtain ⟨g1, g2⟩ := FIN.out _ _ _ hown3 hg3)
            | fail)
          go_roundg (gk - 1)
          case rel => exact ⟨lv + 1 + 1, v3, rfl, by simp, by omega, g1, g2⟩
          case measure => omega
        · rw [if_neg h2] at hgd
          obtain ⟨b, off, rfl, hc0⟩ := H.out d y hgd.symm
          have hc := hk.cell hc0
          have d1 : ¬ (d : Int) = (lv : Int) := by omega
          have d2 : ¬ (d : Int) = (lv : Int) + 1 := by omega
          clear hgd hc0
          go_wp2_with (first
            | (at_builtin; refine wpList_append_own _ rfl _ _ 23 rfl w.heap.size 3 i0 (.int .i64 0) 1 8 Try.underlying23 hi hz0 hz1 hz2 rfl (by decide) (.slice va d vcap) d ((qs.take d).map (Value.int .i64)) rfl (HROW.out.alloc _) ⟨wr.heap.size, 0, none⟩ 1 1 [.int .i64 y] rfl rfl (cell_new _ _ _ _ rfl) (by simp [Value.oneCell']) (by exact q2) (by exact q3) (by simp; omega) ?_; intro v3 w3 hown3 hg3 _; obtain ⟨g1, g2⟩ := FIN.out _ _ _ hown3 hg3)
            | fail)
          go_roundg (gk - 1)
          case rel => exact ⟨d + 1, v3, rfl, by simp, by omega, g1, g2⟩
          case measure => omega
    · have hd2 : d = N := by omega
      subst hd2
      have htk : qs.take d = qs := List.take_of_length_le (by rw [HL.out]; omega)
      have HTK := Lib.hid htk
      clear htk
      go_wp2_with fail
      go_ret
      refine ⟨va, vcap, rfl, fun hn => ?_, hk⟩
      obtain ⟨g, rfl⟩ := HVA.out (by rw [← HL.out]; intro e; exact hn (List.length_eq_zero_iff.1 e))
      have := HROW.out
      rw [HTK.out] at this
      obtain ⟨r1, r2⟩ := rowI_owns this
      exact ⟨g, rfl, r2, r1⟩

end Go.Proofs.Ytoeoehbpahodnaa
