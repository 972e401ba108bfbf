/-
  Tables out of numbers: Size, Bits; the edges of the ends.
-/
import Derived.Test.YtiacdpoldgfpbaaGreatPHPlainAxD
namespace Go.Proofs.YtiacdpoldgfpbaaGreat
set_option linter.unusedSimpArgs false
set_option linter.unusedVariables false
set_option maxHeartbeats 600000
open Go.RowKit

set_option maxRecDepth 100000 in
theorem bits_calls (n : Nat) (hn : n ≤ 20) (a : Int) (ha : 0 ≤ a) (ha2 : a ≤ 18446744073709551615) (w : World) :
    Calls Tryz.prog 19 #[.int .i64 (n : Int), .int .u64 a] w fun e w' => ∃ bs, bs.length = 2 ^ n ∧ e = .returned (.slice (some ⟨w.heap.size, 0, none⟩) (2 ^ n) (2 ^ n)) ∧ BoolsAt w' w.heap.size bs ∧ Keeps w w' := by
  have HS := Lib.hid (size_calls n hn w)
  have h1 : 2 ^ n ≤ 2 ^ 20 := Nat.pow_le_pow_right (by decide) hn
  have e20 : (2 : Nat) ^ 20 = 1048576 := rfl
  obtain ⟨p, hp⟩ : ∃ p, p = 2 ^ n := ⟨_, rfl⟩
  rw [← hp] at h1 HS ⊢
  rw [e20] at h1
  clear hp
  obtain ⟨j0, hj, jz0, jz1, jz2⟩ := info_parts (show (Tryz.prog.info? 4).map (fun i => (i.zero, i.size, i.bytes)) = some (some (.bool false), 1, 1) by kernel_rfl)
  go_enter Tryz.func19, Tryz.ntmps19
  go_wp2_with (first
    | (go_at_call 44; refine HS.out.mono ?_; rintro e w' ⟨rfl, rfl⟩)
    | (at_make; refine wpList_make_full _ rfl _ _ 37 rfl w.heap.size 4 j0 (.bool false) 1 Tryz.underlying37 hj jz0 jz1 .i64 .i64 (p : Int) (p : Int) p rfl rfl rfl rfl (by rw [jz2]; omega) (by unfold maxLen; omega) (Nat.le_refl _) ?_; intro w1 hown1 hg1)
    | fail)
  have HB1 := Lib.hid (bools_made hown1)
  have HK1 := Lib.hid (show Keeps w w1 from ⟨hg1.os, hg1.tape, hg1.output, hg1.size, fun i hi => hg1.block i hi (by simp)⟩)
  clear hown1 hg1
  go_loopg [1, 6] p (fun gk s1 s6 wr => ∃ (d : Nat) (b : Int) (bs : List Bool), d + gk = p ∧ s6 = .int .i64 (d : Int) ∧ s1 = .int .u64 b ∧ 0 ≤ b ∧ b ≤ 18446744073709551615 ∧ bs.length = p ∧ BoolsAt wr w.heap.size bs ∧ Keeps w wr)
  case atStart => exact ⟨0, a, _, by omega, rfl, rfl, ha, ha2, by simp, HB1.out, HK1.out⟩
  case round =>
    obtain ⟨d, b, bs, hd, rfl, rfl, hb0, hb1, hbl, hB, hk⟩ := hrel
    have HB := Lib.hid hB
    have HK := Lib.hid hk
    clear hB hk
    by_cases hlt : d < p
    · have cD := HB.out.cell (i := d) (b := bs[d]'(by omega)) (List.getElem?_eq_getElem _)
      have fD := HB.out.frozen d
      go_wp2
      go_roundg (gk - 1)
      case rel => exact ⟨d + 1, b / 2, bs.set d _, by omega, by simp, rfl, by omega, by omega, by simp [hbl], HB.out.set d _, HK.out.new ((Upd.refl (fun k => k = w.heap.size) wr).setCell (Or.inl rfl) _) (fun k hk => by omega)⟩
      case measure => omega
    · go_wp2
      go_ret
      exact ⟨bs, hbl, rfl, HB.out, HK.out⟩

theorem end16_calls (b : Bool) (l : Int) (h0 : 0 ≤ l) (h1 : l ≤ 16) (w : World) : Calls Tryz.prog 101 #[.bool b, .int .i64 l] w fun e w' => e = .returned (.agg #[.int .u8 (endE 5 b l).tag, .int .u32 (endE 5 b l).to]) ∧ Keeps w w' := by
  have hwr : IntKind.u8.wrap l = l := IntWalk.u8_in l ⟨by omega, by omega⟩
  cases b
  · go_enter Tryz.func101, Tryz.ntmps101
    go_wp2
    all_goals refine bodyPost_ret (v := .agg #[.int .u8 0, .int .u32 0]) (by simp [results, Tryz.results101, go_sem]) rfl ⟨rfl, by (exact kp)⟩
  · go_enter Tryz.func101, Tryz.ntmps101
    go_wp2
    all_goals refine bodyPost_ret (v := .agg #[.int .u8 l, .int .u32 1]) (by simp [results, Tryz.results101, go_sem, hwr]) rfl ⟨rfl, by (exact kp)⟩

end Go.Proofs.YtiacdpoldgfpbaaGreat

namespace Go.Proofs.YtiacdpoldgfpbaaGreat
set_option linter.unusedSimpArgs false
set_option linter.unusedVariables false
set_option maxHeartbeats 600000
open Go.RowKit

theorem Stood.putAt {F F3 : Nat → Prop} {w w3 : World} {sb : Nat} {M : St} (r3 : StoreRep F3 w3 sb M) (sub : ∀ j, F3 j → F j ∨ w.heap.size ≤ j) (u : Upd F w w3) {b : Nat} (hn : ¬ F3 b) (hb : w.heap.size ≤ b) (v0 v1 : Value) :
    Stood F w ((w3.setCell ⟨b, 0, none⟩ v0).setCell ⟨b, 1, none⟩ v1) sb M := by
  have hu : Upd (fun k => k = b) w3 ((w3.setCell ⟨b, 0, none⟩ v0).setCell ⟨b, 1, none⟩ v1) := ((Upd.refl (fun k => k = b) w3).setCell (p := ⟨b, 0, none⟩) (Or.inl rfl) v0).setCell (p := ⟨b, 1, none⟩) (Or.inl rfl) v1
  exact ⟨⟨F3, r3.keep hu (fun k hk e => hn (e ▸ hk)), sub⟩, (u.setCell (p := ⟨b, 0, none⟩) (Or.inr hb) v0).setCell (p := ⟨b, 1, none⟩) (Or.inr hb) v1⟩

end Go.Proofs.YtiacdpoldgfpbaaGreat
