/-
  The document's Leads (ramageref11), over how its store lies in memory.
-/
import Derived.Test.YtimffidpbcflaaaRef2
namespace Go.Proofs.Ytimffidpbcflaaa
set_option linter.unusedSimpArgs false
set_option linter.unusedVariables false
set_option maxHeartbeats 600000
open Go.RowKit


set_option maxRecDepth 100000 in
theorem rleads_low (mb : Nat) (f t ad l n : Int) (al : Option Addr) (len cap D : Nat) (x : Rec) (w : World) (ht1 : 0 ≤ t) (ht2 : t ≤ 255) (hx : x.ok) (hlen : len ≤ 1048576)
    (c3 : w.cell? ⟨mb, 3, none⟩ = some (.int .i64 n)) (c0 : w.cell? ⟨mb, 0, none⟩ = some (.slice al len cap))
    (hat : ∀ W, Keeps w W → Calls Try.prog 60 #[.pointer (some ⟨mb, 0, none⟩), .int .u32 ad] W fun e w' => e = .returned (.int .i64 (if D < len then (D : Int) else -1)) ∧ W = w')
    (hv : D < len → ∃ lb, al = some ⟨lb, 0, none⟩ ∧ ∀ j, j < 7 → w.cell? ⟨lb, D * 8 + (1 + j), none⟩ = (recVals x)[j]?) :
    Calls Try.prog 22 #[.pointer (some ⟨mb, 0, none⟩), .int .u8 f, .agg #[.int .u8 t, .int .u32 ad], .int .i64 l] w fun e w' =>
      e = .returned (.bool (plainB f ⟨t, ad⟩ l n && (decide (ad < 2) || (decide (D < len) && x.form == f && decide (l ≤ x.top) && decide (t ≤ x.top))))) ∧ Keeps w w' := by
  have hmb : mb < w.heap.size := lt_of_cell c0
  obtain ⟨hx1, ⟨hx2, hx3⟩, hx4, hx5, hx6⟩ := hx
  have H := Lib.hid hat
  have HV := Lib.hid hv
  clear hat hv hx1 hx4 hx5 hx6
  cases hp : plainB f ⟨t, ad⟩ l n with
  | false =>
    go_enter Try.func22, Try.ntmps22
    go_wp2_with fail
    go_region_held3 (fun w' => w'.cell? ⟨mb, 3, none⟩ = some (.int .i64 n) ∧ w'.cell? ⟨w.heap.size, 0, none⟩ = some (.int .u8 t) ∧ w'.cell? ⟨w.heap.size, 1, none⟩ = some (.int .u32 ad)) (go_keep) ((first | (go_at_call 64; refine (refplain_calls _ _ _ _ _ _ (by omega) (by omega)).mono ?_; rintro e' w1 ⟨rfl, hb⟩; have hwb : Keeps (w.alloc (.cells #[.int .u8 t, .int .u32 ad] 25)) w1 := (by (repeat (first | with_reducible exact Keeps.refl _ | with_reducible assumption | with_reducible refine Keeps.alloc ?_ _ | with_reducible refine Keeps.drewN ?_ _ | with_reducible refine Keeps.drew ?_ | refine Keeps.setCell ?_ (by dsimp only; omega) _ | with_reducible refine Keeps.trans ?_ (by assumption)))); have z0 : w1.cell? ⟨w.heap.size, 0, none⟩ = some (.int .u8 t) := hwb.cell (by simp); have z1 : w1.cell? ⟨w.heap.size, 1, none⟩ = some (.int .u32 ad) := hwb.cell (by simp); have hk : Keeps w w1 := (((Keeps.refl _).alloc _).trans hwb); have hsz := hwb.size; simp only [World.size_alloc] at hsz; have d3 := hk.cell c3; have d0 := hk.cell c0)))
    all_goals (go_wp2; go_ret; exact ⟨rfl, by (repeat (first | with_reducible exact Keeps.refl _ | with_reducible assumption | with_reducible refine Keeps.alloc ?_ _ | with_reducible refine Keeps.drewN ?_ _ | with_reducible refine Keeps.drew ?_ | refine Keeps.setCell ?_ (by dsimp only; omega) _ | with_reducible refine Keeps.trans ?_ (by assumption)))⟩)
  | true =>
    by_cases h2 : ad < 2
    · obtain ⟨q, hq⟩ : ∃ q : Int, ∀ W, Keeps w W → Calls Try.prog 60 #[.pointer (some ⟨mb, 0, none⟩), .int .u32 ad] W fun e w' => e = .returned (.int .i64 q) ∧ W = w' := ⟨_, H.out⟩
      clear H
      have H := Lib.hid hq
      clear hq
      go_enter Try.func22, Try.ntmps22
      go_wp2_with fail
      go_region_held3 (fun w' => w'.cell? ⟨mb, 3, none⟩ = some (.int .i64 n) ∧ w'.cell? ⟨w.heap.size, 0, none⟩ = some (.int .u8 t) ∧ w'.cell? ⟨w.heap.size, 1, none⟩ = some (.int .u32 ad)) (go_keep) ((first | (go_at_call 64; refine (refplain_calls _ _ _ _ _ _ (by omega) (by omega)).mono ?_; rintro e' w1 ⟨rfl, hb⟩; have hwb : Keeps (w.alloc (.cells #[.int .u8 t, .int .u32 ad] 25)) w1 := (by (repeat (first | with_reducible exact Keeps.refl _ | with_reducible assumption | with_reducible refine Keeps.alloc ?_ _ | with_reducible refine Keeps.drewN ?_ _ | with_reducible refine Keeps.drew ?_ | refine Keeps.setCell ?_ (by dsimp only; omega) _ | with_reducible refine Keeps.trans ?_ (by assumption)))); have z0 : w1.cell? ⟨w.heap.size, 0, none⟩ = some (.int .u8 t) := hwb.cell (by simp); have z1 : w1.cell? ⟨w.heap.size, 1, none⟩ = some (.int .u32 ad) := hwb.cell (by simp); have hk : Keeps w w1 := (((Keeps.refl _).alloc _).trans hwb); have hsz := hwb.size; simp only [World.size_alloc] at hsz; have d3 := hk.cell c3; have d0 := hk.cell c0)))
      all_goals (go_wp2_with (first | (go_at_call 60; refine (H.out _ (by (repeat (first | with_reducible exact Keeps.refl _ | with_reducible assumption | with_reducible refine Keeps.alloc ?_ _ | with_reducible refine Keeps.drewN ?_ _ | with_reducible refine Keeps.drew ?_ | refine Keeps.setCell ?_ (by dsimp only; omega) _ | with_reducible refine Keeps.trans ?_ (by assumption))))).mono ?_; rintro e' w2 ⟨rfl, rfl⟩) | fail); go_ret; exact ⟨by simp [h2], by (repeat (first | with_reducible exact Keeps.refl _ | with_reducible assumption | with_reducible refine Keeps.alloc ?_ _ | with_reducible refine Keeps.drewN ?_ _ | with_reducible refine Keeps.drew ?_ | refine Keeps.setCell ?_ (by dsimp only; omega) _ | with_reducible refine Keeps.trans ?_ (by assumption)))⟩)
    · by_cases hD : D < len
      · obtain ⟨lb, rfl, hc⟩ := HV.out hD
        have hsv := fun j hj => (hc j hj).trans (List.getElem?_eq_getElem (show j < (recVals x).length from hj))
        have s0 := hsv 0 (by omega)
        have s1 := hsv 1 (by omega)
        have s2 := hsv 2 (by omega)
        have s3 := hsv 3 (by omega)
        have s4 := hsv 4 (by omega)
        have s5 := hsv 5 (by omega)
        have s6 := hsv 6 (by omega)
        simp [recVals] at s0 s1 s2 s3 s4 s5 s6
        clear hsv hc
        have hlb : lb < w.heap.size := lt_of_cell s0
        simp only [if_pos hD] at H
        go_enter Try.func22, Try.ntmps22
        go_wp2_with fail
        go_region_held3 (fun w' => w'.cell? ⟨mb, 3, none⟩ = some (.int .i64 n) ∧ w'.cell? ⟨w.heap.size, 0, none⟩ = some (.int .u8 t) ∧ w'.cell? ⟨w.heap.size, 1, none⟩ = some (.int .u32 ad)) (go_keep) ((first | (go_at_call 64; refine (refplain_calls _ _ _ _ _ _ (by omega) (by omega)).mono ?_; rintro e' w1 ⟨rfl, hb⟩; have hwb : Keeps (w.alloc (.cells #[.int .u8 t, .int .u32 ad] 25)) w1 := (by (repeat (first | with_reducible exact Keeps.refl _ | with_reducible assumption | with_reducible refine Keeps.alloc ?_ _ | with_reducible refine Keeps.drewN ?_ _ | with_reducible refine Keeps.drew ?_ | refine Keeps.setCell ?_ (by dsimp only; omega) _ | with_reducible refine Keeps.trans ?_ (by assumption)))); have z0 : w1.cell? ⟨w.heap.size, 0, none⟩ = some (.int .u8 t) := hwb.cell (by simp); have z1 : w1.cell? ⟨w.heap.size, 1, none⟩ = some (.int .u32 ad) := hwb.cell (by simp); have hk : Keeps w w1 := (((Keeps.refl _).alloc _).trans hwb); have hsz := hwb.size; simp only [World.size_alloc] at hsz; have d3 := hk.cell c3; have d0 := hk.cell c0)))
        have u0 := hk.cell s0
        have u1 := hk.cell s1
        have u2 := hk.cell s2
        have u3 := hk.cell s3
        have u4 := hk.cell s4
        have u5 := hk.cell s5
        have u6 := hk.cell s6
        have hmb1 : mb < w1.heap.size := by omega
        have hlb1 : lb < w1.heap.size := by omega
        have hws : w.heap.size < w1.heap.size := by omega
        have HK := Lib.hid hk
        clear hb hwb s0 s1 s2 s3 s4 s5 s6 hk
        go_wp2_with (first | (go_at_call 60; refine (H.out _ (by have := HK.out; (repeat (first | with_reducible exact Keeps.refl _ | with_reducible assumption | with_reducible refine Keeps.alloc ?_ _ | with_reducible refine Keeps.drewN ?_ _ | with_reducible refine Keeps.drew ?_ | refine Keeps.setCell ?_ (by dsimp only; omega) _ | with_reducible refine Keeps.trans ?_ (by assumption))))).mono ?_; rintro e' w2 ⟨rfl, rfl⟩) | fail)
        all_goals (go_ret; have hkk := HK.out; refine ⟨?_, by (repeat (first | with_reducible exact Keeps.refl _ | with_reducible assumption | with_reducible refine Keeps.alloc ?_ _ | with_reducible refine Keeps.drewN ?_ _ | with_reducible refine Keeps.drew ?_ | refine Keeps.setCell ?_ (by dsimp only; omega) _ | with_reducible refine Keeps.trans ?_ (by assumption)))⟩)
        all_goals simp_all
        all_goals (try omega)
      · simp only [if_neg hD] at H
        go_enter Try.func22, Try.ntmps22
        go_wp2_with fail
        go_region_held3 (fun w' => w'.cell? ⟨mb, 3, none⟩ = some (.int .i64 n) ∧ w'.cell? ⟨w.heap.size, 0, none⟩ = some (.int .u8 t) ∧ w'.cell? ⟨w.heap.size, 1, none⟩ = some (.int .u32 ad)) (go_keep) ((first | (go_at_call 64; refine (refplain_calls _ _ _ _ _ _ (by omega) (by omega)).mono ?_; rintro e' w1 ⟨rfl, hb⟩; have hwb : Keeps (w.alloc (.cells #[.int .u8 t, .int .u32 ad] 25)) w1 := (by (repeat (first | with_reducible exact Keeps.refl _ | with_reducible assumption | with_reducible refine Keeps.alloc ?_ _ | with_reducible refine Keeps.drewN ?_ _ | with_reducible refine Keeps.drew ?_ | refine Keeps.setCell ?_ (by dsimp only; omega) _ | with_reducible refine Keeps.trans ?_ (by assumption)))); have z0 : w1.cell? ⟨w.heap.size, 0, none⟩ = some (.int .u8 t) := hwb.cell (by simp); have z1 : w1.cell? ⟨w.heap.size, 1, none⟩ = some (.int .u32 ad) := hwb.cell (by simp); have hk : Keeps w w1 := (((Keeps.refl _).alloc _).trans hwb); have hsz := hwb.size; simp only [World.size_alloc] at hsz; have d3 := hk.cell c3; have d0 := hk.cell c0)))
        all_goals (go_wp2_with (first | (go_at_call 60; refine (H.out _ (by (repeat (first | with_reducible exact Keeps.refl _ | with_reducible assumption | with_reducible refine Keeps.alloc ?_ _ | with_reducible refine Keeps.drewN ?_ _ | with_reducible refine Keeps.drew ?_ | refine Keeps.setCell ?_ (by dsimp only; omega) _ | with_reducible refine Keeps.trans ?_ (by assumption))))).mono ?_; rintro e' w2 ⟨rfl, rfl⟩) | fail); go_ret; exact ⟨by simp [h2, hD], by (repeat (first | with_reducible exact Keeps.refl _ | with_reducible assumption | with_reducible refine Keeps.alloc ?_ _ | with_reducible refine Keeps.drewN ?_ _ | with_reducible refine Keeps.drew ?_ | refine Keeps.setCell ?_ (by dsimp only; omega) _ | with_reducible refine Keeps.trans ?_ (by assumption)))⟩)

end Go.Proofs.Ytimffidpbcflaaa
