/-
  law19.Is and law19.Stays.
-/
import Derived.Test.YtoeoehbpahodnaaPKPlain
import Derived.Deep.CutBlock
namespace Go.Proofs.Ytoeoehbpahodnaa
set_option linter.unusedSimpArgs false
set_option linter.unusedVariables false
set_option maxHeartbeats 600000
open Go.RowKit

set_option maxRecDepth 100000 in
theorem stays_low (sb mb : Nat) (a : Option Addr) (len cap : Nat) (ids : Nat → Int) (rs : Nat → Rec) (w : World) (hl : len ≤ 1048576)
    (c0 : w.cell? ⟨mb, 0, none⟩ = some (.slice a len cap))
    (hv : ∀ i, i < len → ∃ lb, a = some ⟨lb, 0, none⟩ ∧ ∀ j, j < 8 → w.cell? ⟨lb, i * 8 + j, none⟩ = (nodeVals (ids i, rs i))[j]?)
    (hget : ∀ i, i < len → ∀ W, Keeps w W → Calls Try.prog 28 #[.pointer (some ⟨sb, 0, none⟩), .int .u32 (ids i)] W fun e w' => e = .returned (.tuple #[.agg #[.int .u8 (rs i).form, .int .u8 (rs i).top, .int .u8 (rs i).bot, .int .u8 (rs i).lo.tag, .int .u32 (rs i).lo.to, .int .u8 (rs i).hi.tag, .int .u32 (rs i).hi.to], .bool true]) ∧ Keeps W w') :
    Calls Try.prog 42 #[.pointer (some ⟨sb, 0, none⟩), .pointer (some ⟨mb, 0, none⟩)] w fun e w' => e = .returned (.bool true) ∧ Keeps w w' := by
  have HV := Lib.hid hv
  have HG := Lib.hid hget
  clear hv hget
  go_enter Try.func42, Try.ntmps42
  go_wp2_with fail
  go_loopg [5] len (fun gk i wr => ∃ d : Nat, d + gk = len ∧ i = .int .i64 (d : Int) ∧ Keeps w wr)
  case atStart => exact ⟨0, by omega, rfl, Keeps.refl _⟩
  case round =>
    obtain ⟨d, hd, rfl, hk⟩ := hrel
    have i0 := hk.cell c0
    have hmb : mb < wr.heap.size := lt_of_cell i0
    by_cases hlt : d < len
    · obtain ⟨lb, rfl, hc⟩ := HV.out d hlt
      have hsv := fun j hj => hk.cell ((hc j hj).trans (List.getElem?_eq_getElem (by rw [nodeVals_length]; exact hj)))
      have s0 : wr.cell? ⟨lb, d * 8, none⟩ = some (.int .u32 (ids d)) := hsv 0 (by omega)
      have s1 : wr.cell? ⟨lb, d * 8 + 1, none⟩ = some (.int .u8 (rs d).form) := hsv 1 (by omega)
      have s2 : wr.cell? ⟨lb, d * 8 + 2, none⟩ = some (.int .u8 (rs d).top) := hsv 2 (by omega)
      have s3 : wr.cell? ⟨lb, d * 8 + 3, none⟩ = some (.int .u8 (rs d).bot) := hsv 3 (by omega)
      have s4 : wr.cell? ⟨lb, d * 8 + 4, none⟩ = some (.int .u8 (rs d).lo.tag) := hsv 4 (by omega)
      have s5 : wr.cell? ⟨lb, d * 8 + 5, none⟩ = some (.int .u32 (rs d).lo.to) := hsv 5 (by omega)
      have s6 : wr.cell? ⟨lb, d * 8 + 6, none⟩ = some (.int .u8 (rs d).hi.tag) := hsv 6 (by omega)
      have s7 : wr.cell? ⟨lb, d * 8 + 7, none⟩ = some (.int .u32 (rs d).hi.to) := hsv 7 (by omega)
      have hlb : lb < wr.heap.size := lt_of_cell s0
      clear hsv hc
      have HGd := Lib.hid (HG.out d hlt)
      have hq : ∀ W, (binOp .neq 74 (.agg #[.int .u8 (rs d).form, .int .u8 (rs d).top, .int .u8 (rs d).bot, .int .u8 (rs d).lo.tag, .int .u32 (rs d).lo.to, .int .u8 (rs d).hi.tag, .int .u32 (rs d).hi.to]) (.agg #[.int .u8 (rs d).form, .int .u8 (rs d).top, .int .u8 (rs d).bot, .int .u8 (rs d).lo.tag, .int .u32 (rs d).lo.to, .int .u8 (rs d).hi.tag, .int .u32 (rs d).hi.to])).run Try.prog W = .ok (.bool false) W := fun W => by rw [run_neq_rec]; simp
      go_wp2_with (go_at_call 28; refine (HGd.out _ hk).mono ?_; rintro e w2 ⟨rfl, hb⟩; have hk2 := hk.trans hb; have j0 := hb.cell i0; have v0 := hb.cell s0; have v1 := hb.cell s1; have v2 := hb.cell s2; have v3 := hb.cell s3; have v4 := hb.cell s4; have v5 := hb.cell s5; have v6 := hb.cell s6; have v7 := hb.cell s7; have hsz := hb.size; have hmb2 : mb < w2.heap.size := (by omega); have hlb2 : lb < w2.heap.size := (by omega))
      clear i0 s0 s1 s2 s3 s4 s5 s6 s7
      go_quiet (fail)
      go_wp2
      go_roundg (gk - 1)
      case rel => exact ⟨d + 1, by omega, by simp, by (exact kp)⟩
      case measure => omega
    · have hdl : ¬ (d : Int) < (len : Int) := by omega
      go_wp2
      go_ret
      exact ⟨rfl, by (exact kp)⟩

theorem stays_calls {F G : Nat → Prop} {w : World} {sb mb : Nat} {M M' : St} {L : List (Int × Rec)} (hS : StoreRep F w sb M') (hR : RefRep G w mb M L) (hE : Ext M M') :
    Calls Try.prog 42 #[.pointer (some ⟨sb, 0, none⟩), .pointer (some ⟨mb, 0, none⟩)] w fun e w' => e = .returned (.bool true) ∧ Keeps w w' := by
  obtain ⟨a, cap, c0, hc⟩ := hR.cell
  have hat : ∀ i, i < L.length → look M'.cs (L[i]?.getD (0, Rec.zero)).1 = some (L[i]?.getD (0, Rec.zero)).2 := fun i hi => by
    rw [List.getElem?_eq_getElem hi]
    exact hE.sub _ _ ((hR.mem _ _).1 (List.getElem_mem hi))
  refine stays_low sb mb a L.length cap (fun i => (L[i]?.getD (0, Rec.zero)).1) (fun i => (L[i]?.getD (0, Rec.zero)).2) w hR.le c0 ?_ ?_
  · intro i hi
    obtain ⟨lb, rfl, _, hv⟩ := hc (by omega)
    refine ⟨lb, rfl, fun j hj => ?_⟩
    rw [hv i _ (List.getElem?_eq_getElem hi) j hj, List.getElem?_eq_getElem hi]
    rfl
  · intro i hi W hW
    have hl := hat i hi
    have hid := (look_some hl).2.1
    have hfew : M'.cs.length ≤ 1048576 := by
      obtain ⟨⟨ab, ib, ts, Fa, Fi, _, h2, _⟩, _⟩ := hS
      exact h2.few
    have := store_get (hS.keeps hW) (L[i]?.getD (0, Rec.zero)).1 (by omega)
    rw [hl] at this
    exact this

end Go.Proofs.Ytoeoehbpahodnaa
