/-
  ramageref11.Top over the state; ramagelaw11.all.
-/
import Derived.Test.YtacanmmkhbdmlaaPReachA
import Derived.Test.YtacanmmkhbdmlaaPRefB
import Derived.Test.YtacanmmkhbdmlaaPTopW
namespace Go.Proofs.Ytacanmmkhbdmlaa
set_option linter.unusedSimpArgs false
set_option linter.unusedVariables false
set_option maxHeartbeats 600000
open Go.RowKit

set_option maxRecDepth 100000 in
theorem ref_top {F : Nat → Prop} {w : World} {mb : Nat} {M : St} {L : List (Int × Rec)} (h : RefRep F w mb M L) (e : Edge) (he : e.ok) :
    Calls Try.prog 46 #[.pointer (some ⟨mb, 0, none⟩), .agg #[.int .u8 e.tag, .int .u32 e.to]] w fun r w' => r = .returned (.int .i64 (topI M e)) ∧ Keeps w w' := by
  obtain ⟨a, cap, c0, hc⟩ := h.cell
  have hfit := h.fit
  have hle := h.le
  have hat := fun (W : World) (hW : Keeps w W) => ref_at (h.keeps hW) e.to
  have hloc := atI_look h e.to
  obtain ⟨⟨lv, gv, h1, -⟩, -⟩ := h
  have c3 : w.cell? ⟨mb, 3, none⟩ = some (.int .i64 M.n) := by rw [cell_of_row w mb 3 _ _ _ h1]; rfl
  have t0 : 0 ≤ e.to := he.2.1
  have t1 : e.to ≤ 4294967295 := he.2.2
  have hmb : mb < w.heap.size := lt_of_cell c3
  have HAT := Lib.hid hat
  unfold topI
  by_cases h2 : e.to < 2
  · rw [if_pos h2]
    clear hat hloc hc h1
    go_enter Try.func46, Try.ntmps46
    go_wp2_with fail
    go_ret
    exact ⟨rfl, by (repeat (first | with_reducible exact Keeps.refl _ | with_reducible assumption | with_reducible refine Keeps.alloc ?_ _ | with_reducible refine Keeps.drewN ?_ _ | with_reducible refine Keeps.drew ?_ | refine Keeps.setCell ?_ (by dsimp only; omega) _ | with_reducible refine Keeps.trans ?_ (by assumption)))⟩
  · rw [if_neg h2]
    rcases hloc with ⟨r, hl, D, hD, hDe, hlt, hDi⟩ | ⟨hl, hlt, hDi⟩
    · have hr : r.ok := hfit _ (List.mem_of_getElem? hD)
      obtain ⟨lb, rfl, _, hv⟩ := hc (by omega)
      have cT : w.cell? ⟨lb, D * 8 + 2, none⟩ = some (.int .u8 r.top) := (hv _ _ hD 2 (by decide)).trans rfl
      have hlb : lb < w.heap.size := lt_of_cell cT
      have r0 := hr.top.1
      have r1 := hr.top.2
      have hdl : (D : Int) < (L.length : Int) := by omega
      have hg : gsome (look M.cs e.to) = true := by rw [hl]; rfl
      have hg2 : (grec (look M.cs e.to)).top = r.top := by rw [hl]; rfl
      rw [if_pos hg, hg2]
      rw [hDi] at hat
      have HA := Lib.hid hat
      clear hat hc h1 hv hD hDe hDi hl hg hg2 hlt HAT hr
      go_enter Try.func46, Try.ntmps46
      go_wp2_with (first | (go_at_call 70; refine (HA.out _ (by (repeat (first | with_reducible exact Keeps.refl _ | with_reducible assumption | with_reducible refine Keeps.alloc ?_ _ | with_reducible refine Keeps.drewN ?_ _ | with_reducible refine Keeps.drew ?_ | refine Keeps.setCell ?_ (by dsimp only; omega) _ | with_reducible refine Keeps.trans ?_ (by assumption))))).mono ?_; rintro e2 w2 ⟨rfl, rfl⟩) | fail)
      go_ret
      exact ⟨rfl, by (repeat (first | with_reducible exact Keeps.refl _ | with_reducible assumption | with_reducible refine Keeps.alloc ?_ _ | with_reducible refine Keeps.drewN ?_ _ | with_reducible refine Keeps.drew ?_ | refine Keeps.setCell ?_ (by dsimp only; omega) _ | with_reducible refine Keeps.trans ?_ (by assumption)))⟩
    · rw [if_neg (by rw [hl]; decide)]
      rw [hDi] at hat
      have HA := Lib.hid hat
      clear hat hc h1 hDi hl hlt HAT
      go_enter Try.func46, Try.ntmps46
      go_wp2_with (first | (go_at_call 70; refine (HA.out _ (by (repeat (first | with_reducible exact Keeps.refl _ | with_reducible assumption | with_reducible refine Keeps.alloc ?_ _ | with_reducible refine Keeps.drewN ?_ _ | with_reducible refine Keeps.drew ?_ | refine Keeps.setCell ?_ (by dsimp only; omega) _ | with_reducible refine Keeps.trans ?_ (by assumption))))).mono ?_; rintro e2 w2 ⟨rfl, rfl⟩) | fail)
      go_ret
      exact ⟨rfl, by (repeat (first | with_reducible exact Keeps.refl _ | with_reducible assumption | with_reducible refine Keeps.alloc ?_ _ | with_reducible refine Keeps.drewN ?_ _ | with_reducible refine Keeps.drew ?_ | refine Keeps.setCell ?_ (by dsimp only; omega) _ | with_reducible refine Keeps.trans ?_ (by assumption)))⟩

theorem info_edge : (Try.prog.info? 35).map (fun i => (i.zero, i.size, i.bytes)) = some (some (.agg #[.int .u8 0, .int .u32 0]), 2, 8) := by kernel_rfl

theorem refId_ok {F : Nat → Prop} {w : World} {mb : Nat} {M : St} {L : List (Int × Rec)} (h : RefRep F w mb M L) {i : Nat} {p : Int × Rec} (hp : L[i]? = some p) : 0 ≤ p.1 ∧ p.1 ≤ 4294967295 := by
  have h1 := (h.mem p.1 p.2).1 (List.mem_of_getElem? hp)
  obtain ⟨q1, q2, _⟩ := look_some h1
  have := h.few
  omega

/-- An edge to each id. -/
def toEdges (L : List (Int × Rec)) : List Edge := L.map (fun p => ⟨0, p.1⟩)

def edgeVals (e : Edge) : List Value := [.int .u8 e.tag, .int .u32 e.to]

set_option maxRecDepth 100000 in
theorem all_calls {F : Nat → Prop} {w : World} {mb : Nat} {M : St} {L : List (Int × Rec)} (h : RefRep F w mb M L) :
    Calls Try.prog 52 #[.pointer (some ⟨mb, 0, none⟩)] w fun e w' => ∃ a cap, e = .returned (.slice a L.length cap) ∧ IsEdges w' a L.length (toEdges L) ∧ Keeps w w' := by
  obtain ⟨a, cap, c0, hc⟩ := h.cell
  have hle := h.le
  obtain ⟨i0, hi, hz0, hz1, hz2⟩ := info_parts info_edge
  have hmb : mb < w.heap.size := lt_of_cell c0
  have hrow0 : w.ownsRow w.heap.size 35 2 (.slice none 0 0) 0 [] := World.ownsRow_nil _ _ _ _
  have HR := Lib.hid h
  go_enter Try.func52, Try.ntmps52
  have HC := Lib.hid hc
  have HFIT := Lib.hid (fun (i : Nat) (p : Int × Rec) (hp : L[i]? = some p) => refId_ok h hp)
  clear hc h
  go_wp2_with fail
  go_loopg [3, 4] L.length (fun gk s3 s4 wr => ∃ d : Nat, d + gk = L.length ∧ s4 = .int .i64 (d : Int) ∧ wr.ownsRow w.heap.size 35 2 s3 d (((toEdges L).take d).flatMap edgeVals) ∧ Keeps w wr)
  case atStart => exact ⟨0, by omega, rfl, hrow0, by (repeat (first | with_reducible exact Keeps.refl _ | with_reducible assumption | with_reducible refine Keeps.alloc ?_ _ | with_reducible refine Keeps.drewN ?_ _ | with_reducible refine Keeps.drew ?_ | refine Keeps.setCell ?_ (by dsimp only; omega) _ | with_reducible refine Keeps.trans ?_ (by assumption)))⟩
  case round =>
    obtain ⟨d, hd, rfl, hrow, hk⟩ := hrel
    have HK := Lib.hid hk
    have c0r := hk.cell c0
    have hszr := hk.size
    obtain ⟨va, vcap, rfl, hvs⟩ := owns_slice hrow
    by_cases hlt : d < L.length
    · obtain ⟨p, hp⟩ : ∃ p, L[d]? = some p := ⟨_, List.getElem?_eq_getElem hlt⟩
      obtain ⟨lb, rfl, _, hv⟩ := HC.out (by omega)
      have cI := hk.cell ((hv d p hp 0 (by decide)).trans (show (nodeVals p)[0]? = some (.int .u32 p.1) from rfl))
      rw [Nat.add_zero] at cI
      have lI := lt_of_cell cI
      dsimp only at lI
      have HRW := Lib.hid hrow
      have e1 : (toEdges L).take (d + 1) = (toEdges L).take d ++ [⟨0, p.1⟩] := by
        have hp2 : (toEdges L)[d]? = some ⟨0, p.1⟩ := by unfold toEdges; rw [List.getElem?_map, hp]; rfl
        obtain ⟨q1, q2⟩ := List.getElem?_eq_some_iff.1 hp2
        rw [List.take_succ_eq_append_getElem q1, q2]
      have HE := Lib.hid e1
      clear hrow e1 hv hp
      go_wp2_with (first
        | (at_builtin; refine wpList_append_own _ rfl _ _ 56 rfl w.heap.size 35 i0 (.agg #[.int .u8 0, .int .u32 0]) 2 8 Try.underlying56 hi hz0 hz1 hz2 rfl (by decide) (.slice va d vcap) d (((toEdges L).take d).flatMap edgeVals) rfl (HRW.out.alloc _) ⟨wr.heap.size, 0, none⟩ 1 1 [.int .u8 0, .int .u32 p.1] rfl rfl (cell_new _ _ _ _ rfl) (by simp [Value.oneCell']) (by unfold maxLen; omega) (by omega) (by simp; omega) ?_; intro v' w3 hown3 hg3 _)
        | fail)
      have HO3 := Lib.hid hown3
      have HU3 := Lib.hid hg3
      clear hown3 hg3
      go_roundg (gk - 1)
      case rel =>
        have hk3 : Keeps w w3 := by
          refine Keeps.new (F := fun k => Value.ownBlock (.slice va d vcap) = some k) (HK.out.alloc (.cells #[.int .u8 0, .int .u32 p.1] 35)) ⟨HU3.out.os, HU3.out.tape, HU3.out.output, HU3.out.size, fun k hk hn => HU3.out.block k hk (fun e => hn e.symm)⟩ (fun k hk => ?_)
          rcases HRW.out.2 with ⟨h0, _⟩ | ⟨g, cap', cur, h0, hbg, _⟩
          · rw [h0] at hk; simp [Value.ownBlock] at hk
          · rw [h0] at hk; simp [Value.ownBlock] at hk; omega
        refine ⟨d + 1, by omega, by simp, ?_, hk3⟩
        rw [HE.out, List.flatMap_append]
        exact HO3.out
      case measure => omega
    · obtain rfl : d = L.length := by omega
      have hlen : (toEdges L).length = L.length := by unfold toEdges; rw [List.length_map]
      have HRW := Lib.hid hrow
      clear hrow hd hvs
      go_wp2_with fail
      go_ret
      refine ⟨va, vcap, rfl, ⟨hlen, fun i e he => ?_⟩, HK.out⟩
      have he' := he
      unfold toEdges at he'
      rw [List.getElem?_map] at he'
      cases hp : L[i]? with
      | none => rw [hp] at he'; cases he'
      | some p =>
        rw [hp] at he'
        simp only [Option.map_some, Option.some.injEq] at he'
        subst he'
        have hil := (List.getElem?_eq_some_iff.1 hp).1
        have hr := HRW.out
        rw [List.take_of_length_le (by omega)] at hr
        rcases hr.2 with ⟨h0, h1⟩ | ⟨g, cap', cur, h0, hbg, _⟩
        · omega
        · cases h0
          refine ⟨⟨⟨Int.le_refl 0, (by decide : (0 : Int) ≤ 255)⟩, HFIT.out i p hp⟩, g, 0, rfl, ?_, ?_⟩
          · rw [Nat.zero_add]
            have := (hr.cellAt (i * 2 + 0) (by omega)).trans (flat_get edgeVals 2 (fun _ => rfl) (toEdges L) i 0 _ he (by decide))
            rwa [Nat.add_zero] at this
          · rw [Nat.zero_add]
            exact (hr.cellAt (i * 2 + 1) (by omega)).trans (flat_get edgeVals 2 (fun _ => rfl) (toEdges L) i 1 _ he (by decide))

end Go.Proofs.Ytacanmmkhbdmlaa
