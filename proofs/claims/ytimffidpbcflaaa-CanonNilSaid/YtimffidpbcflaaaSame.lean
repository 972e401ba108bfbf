/-
  Same: a store has just the document's nodes.
-/
import Derived.Test.YtimffidpbcflaaaBuilt
namespace Go.Proofs.Ytimffidpbcflaaa
set_option linter.unusedSimpArgs false
set_option linter.unusedVariables false
set_option maxHeartbeats 600000
open Go.RowKit


set_option maxRecDepth 100000 in
theorem same_low (sb mb : Nat) (n room : Int) (a : Option Addr) (len cap : Nat) (ids : Nat → Int) (rs : Nat → Rec) (w : World) (hl : len ≤ 1048576)
    (c0 : w.cell? ⟨mb, 0, none⟩ = some (.slice a len cap)) (c3 : w.cell? ⟨mb, 3, none⟩ = some (.int .i64 n)) (c4 : w.cell? ⟨mb, 4, none⟩ = some (.int .i64 room))
    (hln : ∀ W, Keeps w W → Calls Try.prog 43 #[.pointer (some ⟨sb, 0, none⟩)] W fun e w' => e = .returned (.int .i64 (len : Int)) ∧ W = w')
    (hvs : ∀ W, Keeps w W → Calls Try.prog 47 #[.pointer (some ⟨sb, 0, none⟩)] W fun e w' => e = .returned (.int .i64 n) ∧ W = w')
    (hrm : ∀ W, Keeps w W → Calls Try.prog 48 #[.pointer (some ⟨sb, 0, none⟩)] W fun e w' => e = .returned (.int .i64 room) ∧ W = w')
    (hv : ∀ i, i < len → ∃ lb, a = some ⟨lb, 0, none⟩ ∧ ∀ j, j < 8 → w.cell? ⟨lb, i * 8 + j, none⟩ = (nodeVals (ids i, rs i))[j]?)
    (hget : ∀ i, i < len → ∀ W, Keeps w W → Calls Try.prog 45 #[.pointer (some ⟨sb, 0, none⟩), .int .u32 (ids i)] W fun e w' => e = .returned (.tuple #[.agg #[.int .u8 (rs i).form, .int .u8 (rs i).top, .int .u8 (rs i).bot, .int .u8 (rs i).lo.tag, .int .u32 (rs i).lo.to, .int .u8 (rs i).hi.tag, .int .u32 (rs i).hi.to], .bool true]) ∧ Keeps W w')
    (hhas : ∀ i, i < len → ∀ W, Keeps w W → Calls Try.prog 46 #[.pointer (some ⟨sb, 0, none⟩), .agg #[.int .u8 (rs i).form, .int .u8 (rs i).top, .int .u8 (rs i).bot, .int .u8 (rs i).lo.tag, .int .u32 (rs i).lo.to, .int .u8 (rs i).hi.tag, .int .u32 (rs i).hi.to]] W fun e w' => e = .returned (.tuple #[.int .u32 (ids i), .bool true]) ∧ Keeps W w') :
    Calls Try.prog 54 #[.pointer (some ⟨sb, 0, none⟩), .pointer (some ⟨mb, 0, none⟩)] w fun e w' => e = .returned (.bool true) ∧ Keeps w w' := by
  have HLn := Lib.hid hln
  have HVs := Lib.hid hvs
  have HRm := Lib.hid hrm
  have HV := Lib.hid hv
  have HG := Lib.hid hget
  have HH := Lib.hid hhas
  clear hln hvs hrm hv hget hhas
  go_enter Try.func54, Try.ntmps54
  go_wp2_with fail
  have d0k := KWorld.cell c0
  have d3k := KWorld.cell c3
  have d4k := KWorld.cell c4
  refine wp_region_keeps (w) (by kernel_rfl) (by kernel_rfl) (by (repeat (first | with_reducible exact Keeps.refl _ | with_reducible assumption | with_reducible refine Keeps.alloc ?_ _ | with_reducible refine Keeps.drewN ?_ _ | with_reducible refine Keeps.drew ?_ | refine Keeps.setCell ?_ (by dsimp only; omega) _ | with_reducible refine Keeps.trans ?_ (by assumption)))) ?_; (repeat (go_big_quiet_step ((first | (go_at_call 43; with_reducible refine Calls.sameK (HLn.out _ (KWorld.keep _))) | (go_at_call 47; with_reducible refine Calls.sameK (HVs.out _ (KWorld.keep _))) | (go_at_call 48; with_reducible refine Calls.sameK (HRm.out _ (KWorld.keep _))))))); refine wpQuiet_nil ?_; rintro wq ⟨⟨_, hkq⟩, rfl⟩; try dsimp only
  go_wp2_with fail
  go_loopg [5] len (fun gk i wr => ∃ d : Nat, d + gk = len ∧ i = .int .i64 (d : Int) ∧ Keeps w wr)
  case atStart => exact ⟨0, by omega, rfl, hkq⟩
  case round =>
    obtain ⟨d, hd, rfl, hk⟩ := hrel
    have i0 := hk.cell c0
    have hmb : mb < wr.heap.size := lt_of_cell i0
    by_cases hlt : d < len
    · obtain ⟨lb, rfl, hc⟩ := HV.out d hlt
      have hsv := fun j hj => hk.cell ((hc j hj).trans (List.getElem?_eq_getElem (by rw [nodeVals_length]; exact hj)))
      have s0 := hsv 0 (by omega)
      have s1 := hsv 1 (by omega)
      have s2 := hsv 2 (by omega)
      have s3 := hsv 3 (by omega)
      have s4 := hsv 4 (by omega)
      have s5 := hsv 5 (by omega)
      have s6 := hsv 6 (by omega)
      have s7 := hsv 7 (by omega)
      simp [nodeVals, recVals] at s0 s1 s2 s3 s4 s5 s6 s7
      have hlb : lb < wr.heap.size := lt_of_cell s0
      clear hsv hc
      have HGd := Lib.hid (HG.out d hlt)
      have HHd := Lib.hid (HH.out d hlt)
      have hq : ∀ W, (binOp .neq 58 (.agg #[.int .u8 (rs d).form, .int .u8 (rs d).top, .int .u8 (rs d).bot, .int .u8 (rs d).lo.tag, .int .u32 (rs d).lo.to, .int .u8 (rs d).hi.tag, .int .u32 (rs d).hi.to]) (.agg #[.int .u8 (rs d).form, .int .u8 (rs d).top, .int .u8 (rs d).bot, .int .u8 (rs d).lo.tag, .int .u32 (rs d).lo.to, .int .u8 (rs d).hi.tag, .int .u32 (rs d).hi.to])).run Try.prog W = .ok (.bool false) W := fun W => by rw [run_neq_rec]; simp
      go_wp2_with (go_at_call 45; refine (HGd.out _ hk).mono ?_; rintro e w2 ⟨rfl, hb⟩; have hk2 := hk.trans hb; have j0 := hb.cell i0; have v0 := hb.cell s0; have v1 := hb.cell s1; have v2 := hb.cell s2; have v3 := hb.cell s3; have v4 := hb.cell s4; have v5 := hb.cell s5; have v6 := hb.cell s6; have v7 := hb.cell s7; have hsz := hb.size; have hmb2 : mb < w2.heap.size := (by omega); have hlb2 : lb < w2.heap.size := (by omega))
      refine (HHd.out _ (by (repeat (first | with_reducible exact Keeps.refl _ | with_reducible assumption | with_reducible refine Keeps.alloc ?_ _ | with_reducible refine Keeps.drewN ?_ _ | with_reducible refine Keeps.drew ?_ | refine Keeps.setCell ?_ (by dsimp only; omega) _ | with_reducible refine Keeps.trans ?_ (by assumption))))).mono ?_
      rintro e w3 ⟨rfl, hb3⟩
      have hb4 : Keeps (w2.alloc (.cells #[.int .u8 (rs d).form, .int .u8 (rs d).top, .int .u8 (rs d).bot, .int .u8 (rs d).lo.tag, .int .u32 (rs d).lo.to, .int .u8 (rs d).hi.tag, .int .u32 (rs d).hi.to] 58)) w3 := hb3
      obtain ⟨b0, b1, b2, b3, b4, b5, b6⟩ := box7 hb4
      have hb5 : Keeps w2 w3 := ((Keeps.refl _).alloc _).trans hb4
      have hk3 : Keeps w w3 := hk2.trans hb5
      have p0 := hb5.cell j0
      have r0 := hb5.cell v0
      have r1 := hb5.cell v1
      have r2 := hb5.cell v2
      have r3 := hb5.cell v3
      have r4 := hb5.cell v4
      have r5 := hb5.cell v5
      have r6 := hb5.cell v6
      have r7 := hb5.cell v7
      clear i0 s0 s1 s2 s3 s4 s5 s6 s7 j0 v0 v1 v2 v3 v4 v5 v6 v7 hb3 hb4
      go_wp2_with fail
      go_quiet (fail)
      go_wp2
      go_roundg (gk - 1)
      case rel => exact ⟨d + 1, by omega, by simp, by (repeat (first | with_reducible exact Keeps.refl _ | with_reducible assumption | with_reducible refine Keeps.alloc ?_ _ | with_reducible refine Keeps.drewN ?_ _ | with_reducible refine Keeps.drew ?_ | refine Keeps.setCell ?_ (by dsimp only; omega) _ | with_reducible refine Keeps.trans ?_ (by assumption)))⟩
      case measure => omega
    · have hdl : ¬ (d : Int) < (len : Int) := by omega
      go_wp2
      go_ret
      exact ⟨rfl, by (repeat (first | with_reducible exact Keeps.refl _ | with_reducible assumption | with_reducible refine Keeps.alloc ?_ _ | with_reducible refine Keeps.drewN ?_ _ | with_reducible refine Keeps.drew ?_ | refine Keeps.setCell ?_ (by dsimp only; omega) _ | with_reducible refine Keeps.trans ?_ (by assumption)))⟩

theorem RefRep.room {F : Nat → Prop} {w : World} {mb : Nat} {M : St} {L : List (Int × Rec)} (h : RefRep F w mb M L) : w.cell? ⟨mb, 4, none⟩ = some (.int .i64 M.room) := by
  obtain ⟨⟨lv, gv, h1, -⟩, -⟩ := h
  rw [cell_of_row w mb 4 _ _ _ h1]
  rfl

theorem same_both {w0 w : World} {sb mb : Nat} {M : St} {L : List (Int × Rec)} (h : Both w0 w sb mb M L) :
    Calls Try.prog 54 #[.pointer (some ⟨sb, 0, none⟩), .pointer (some ⟨mb, 0, none⟩)] w fun e w' => e = .returned (.bool true) ∧ Keeps w w' := by
  obtain ⟨⟨F, G, hS, hR, -⟩, -⟩ := h
  obtain ⟨a, cap, c0, hc⟩ := hR.cell
  have c3 : w.cell? ⟨mb, 3, none⟩ = some (.int .i64 M.n) := by
    obtain ⟨⟨lv, gv, h1, -⟩, -⟩ := hR
    rw [cell_of_row w mb 3 _ _ _ h1]
    rfl
  have hat : ∀ i, i < L.length → look M.cs (L[i]?.getD (0, Rec.zero)).1 = some (L[i]?.getD (0, Rec.zero)).2 := fun i hi => by
    rw [List.getElem?_eq_getElem hi]
    exact (hR.mem _ _).1 (List.getElem_mem hi)
  refine same_low sb mb M.n M.room a L.length cap (fun i => (L[i]?.getD (0, Rec.zero)).1) (fun i => (L[i]?.getD (0, Rec.zero)).2) w hR.le c0 c3 hR.room ?_ (fun W hW => store_vars (hS.keeps hW)) (fun W hW => store_room (hS.keeps hW)) ?_ ?_ ?_
  · intro W hW
    rw [hR.len]
    exact store_len (hS.keeps hW)
  · intro i hi
    obtain ⟨lb, rfl, _, hv⟩ := hc (by omega)
    refine ⟨lb, rfl, fun j hj => ?_⟩
    rw [hv i _ (List.getElem?_eq_getElem hi) j hj, List.getElem?_eq_getElem hi]
    rfl
  · intro i hi W hW
    have hl := hat i hi
    have hid := (look_some hl).2.1
    have hfew := hR.few
    have := store_get (hS.keeps hW) (L[i]?.getD (0, Rec.zero)).1 (by omega)
    rw [hl] at this
    exact this
  · intro i hi W hW
    have hl := hat i hi
    have hok := hR.fit _ (List.getElem_mem hi)
    have e : L[i]?.getD (0, Rec.zero) = L[i] := by rw [List.getElem?_eq_getElem hi]; rfl
    have := store_has (hS.keeps hW) (L[i]?.getD (0, Rec.zero)).2 (by rw [e]; exact hok)
    rw [(idOf_iff hS.once _ _).1 hl] at this
    exact this

end Go.Proofs.Ytimffidpbcflaaa
