/-
  The walk of TbddMakes.
-/
import Derived.Test.YtedlchpdbpffmaaTAlive
namespace Go.Proofs.Ytedlchpdbpffmaa
set_option linter.unusedSimpArgs false
set_option linter.unusedVariables false
set_option maxHeartbeats 600000
open Go.RowKit


set_option maxRecDepth 100000 in
theorem tmakes_out (n room l : Int) (a : Option Addr) (len cap : Nat) (lo hi : Edge) (w : World) (h : 40 < len ∨ n < 0 ∨ 16 < n ∨ room < 0 ∨ 100 < room) :
    Calls Try.prog 4 #[.int .i64 n, .int .i64 room, .slice a len cap, .int .i64 l, .agg #[.int .u8 lo.tag, .int .u32 lo.to], .agg #[.int .u8 hi.tag, .int .u32 hi.to]] w fun e w' => e = .returned (.bool true) ∧ Keeps w w' := by
  have H := Lib.hid h
  clear h
  go_enter Try.func4, Try.ntmps4
  go_wp2_with (first | (go_at_call 15; refine (t_alive _).mono ?_; rintro e w1 ⟨rfl, hb⟩; have y0 := hb.cell (a := ⟨w.heap.size, 0, none⟩) (v := .int .u8 lo.tag) (by simp [go_sem]); have y1 := hb.cell (a := ⟨w.heap.size, 1, none⟩) (v := .int .u32 lo.to) (by simp [go_sem]); have x0 := hb.cell (a := ⟨w.heap.size + 1, 0, none⟩) (v := .int .u8 hi.tag) (by simp [go_sem]); have x1 := hb.cell (a := ⟨w.heap.size + 1, 1, none⟩) (v := .int .u32 hi.to) (by simp [go_sem]); have hk : Keeps w w1 := (by (repeat (first | with_reducible exact Keeps.refl _ | with_reducible assumption | with_reducible refine Keeps.alloc ?_ _ | with_reducible refine Keeps.drewN ?_ _ | with_reducible refine Keeps.drew ?_ | refine Keeps.setCell ?_ (by dsimp only; omega) _ | with_reducible refine Keeps.trans ?_ (by assumption)))); have hsz := hb.size; simp only [World.size_alloc] at hsz) | fail)
  all_goals first | (go_ret; exact ⟨rfl, by (repeat (first | with_reducible exact Keeps.refl _ | with_reducible assumption | with_reducible refine Keeps.alloc ?_ _ | with_reducible refine Keeps.drewN ?_ _ | with_reducible refine Keeps.drew ?_ | refine Keeps.setCell ?_ (by dsimp only; omega) _ | with_reducible refine Keeps.trans ?_ (by assumption)))⟩) | (exfalso; have := H.out; omega)

theorem IsRecs.keeps {w W : World} {a : Option Addr} {len : Nat} {rs : List Rec} (h : IsRecs w a len rs) (hk : Keeps w W) : IsRecs W a len rs := by
  refine ⟨h.1, fun i r hr => ?_⟩
  obtain ⟨h1, b, off, h2, h3⟩ := h.2 i r hr
  exact ⟨h1, b, off, h2, fun j hj => by
    rw [List.getElem?_eq_getElem (show j < (recVals r).length from hj)]
    exact hk.cell ((h3 j hj).trans (List.getElem?_eq_getElem (show j < (recVals r).length from hj)))⟩

theorem findErr_range (M : St) (r : Rec) : 0 ≤ M.findErr r ∧ M.findErr r ≤ 255 := by
  unfold St.findErr
  split
  · decide
  · split
    · decide
    · split <;> decide

theorem actErr_range (M : St) (l : Int) (lo hi : Edge) : 0 ≤ actErr M (tAct M l lo hi) ∧ actErr M (tAct M l lo hi) ≤ 255 := by
  unfold tAct
  split
  · simp [actErr]
  · split
    · simp [actErr]
    · split
      · simp [actErr]
      · split
        · simp [actErr]
        · exact findErr_range M _

set_option maxRecDepth 100000 in
theorem tmakes_in (n room l : Int) (a : Option Addr) (len cap : Nat) (rs : List Rec) (lo hi : Edge) (w : World) (hlo : lo.ok) (hhi : hi.ok) (h1 : len ≤ 40) (h2 : 0 ≤ n) (h3 : n ≤ 16) (h4 : 0 ≤ room) (h5 : room ≤ 100) (hrs : IsRecs w a len rs) :
    Calls Try.prog 4 #[.int .i64 n, .int .i64 room, .slice a len cap, .int .i64 l, .agg #[.int .u8 lo.tag, .int .u32 lo.to], .agg #[.int .u8 hi.tag, .int .u32 hi.to]] w fun e w' => e = .returned (.bool true) ∧ Keeps w w' := by
  have HR := Lib.hid hrs
  have HL := Lib.hid hlo
  have HH := Lib.hid hhi
  clear hrs hlo hhi
  go_enter Try.func4, Try.ntmps4
  go_wp2_with (first | (go_at_call 15; refine (t_alive _).mono ?_; rintro e w1 ⟨rfl, hb⟩; have y0 := hb.cell (a := ⟨w.heap.size, 0, none⟩) (v := .int .u8 lo.tag) (by simp [go_sem]); have y1 := hb.cell (a := ⟨w.heap.size, 1, none⟩) (v := .int .u32 lo.to) (by simp [go_sem]); have x0 := hb.cell (a := ⟨w.heap.size + 1, 0, none⟩) (v := .int .u8 hi.tag) (by simp [go_sem]); have x1 := hb.cell (a := ⟨w.heap.size + 1, 1, none⟩) (v := .int .u32 hi.to) (by simp [go_sem]); have hk : Keeps w w1 := (by (repeat (first | with_reducible exact Keeps.refl _ | with_reducible assumption | with_reducible refine Keeps.alloc ?_ _ | with_reducible refine Keeps.drewN ?_ _ | with_reducible refine Keeps.drew ?_ | refine Keeps.setCell ?_ (by dsimp only; omega) _ | with_reducible refine Keeps.trans ?_ (by assumption)))); have hsz := hb.size; simp only [World.size_alloc] at hsz) | fail)
  refine (built n room a len cap rs _ h2 h3 h4 (by omega) (by omega) (HR.out.keeps hk)).mono ?_
  rintro e w2 ⟨sb, mb, M, L, rfl, hB⟩
  obtain ⟨⟨F, G, q1, q2, q3, q4, q5⟩, q6⟩ := hB
  have v0 := q6.cell y0
  have v1 := q6.cell y1
  have v2 := q6.cell x0
  have v3 := q6.cell x1
  go_wp2_with fail
  have hr := actErr_range M l lo hi
  obtain ⟨r1, r2⟩ := hr
  refine (tbdd_make q1 l lo hi HL.out HH.out).mono ?_
  rintro e w3 ⟨rfl, hu, hS3⟩
  have hk3 := q6.new hu q4
  have u0 := hk3.cell y0
  have u1 := hk3.cell y1
  have u2 := hk3.cell x0
  have u3 := hk3.cell x1
  have z1 := hk3.size
  have z2 : w.heap.size < w3.heap.size := by omega
  have z3 : w.heap.size + 1 < w3.heap.size := by omega
  have HS3 := Lib.hid hS3
  have HU := Lib.hid hu
  have Q1 := Lib.hid q1
  have Q2 := Lib.hid q2
  have Q3 := Lib.hid q3
  have Q4 := Lib.hid q4
  have Q5 := Lib.hid q5
  have Q6 := Lib.hid q6
  clear hS3 hu q1 q2 q3 q4 q5 q6 v0 v1 v2 v3 y0 y1 x0 x1
  go_wp2_with fail
  refine (ref16_make ((Q2.out.keep HU.out (fun k hk hf => Q3.out k hf hk)).keeps ((Keeps.refl _).alloc _)) l lo hi HL.out HH.out).mono ?_
  rintro e w4 ⟨rfl, hu4, hS4⟩
  have hB4 := Both.step Q1.out Q2.out Q3.out Q4.out Q5.out Q6.out HU.out HS3.out ((Keeps.refl _).alloc _) hu4 hS4
  have nG : ¬ G w3.heap.size := fun h => by have := Q2.out.lt _ h; have := HU.out.size; omega
  have e0 := hu4.cell (a := ⟨w3.heap.size, 0, none⟩) nG (v := .int .u8 (actE M (tAct M l lo hi)).tag) (by simp [go_sem])
  have e1 := hu4.cell (a := ⟨w3.heap.size, 1, none⟩) nG (v := .int .u32 (actE M (tAct M l lo hi)).to) (by simp [go_sem])
  have hq := eql_edge_same (actE M (tAct M l lo hi)) (actE M (tAct M l lo hi)) rfl
  have hs4 := hu4.size
  simp only [World.size_alloc] at hs4
  have z4 : w3.heap.size < w4.heap.size := by omega
  have hk4 : Keeps w w4 := hk.trans hB4.keep
  have HB := Lib.hid hB4
  clear hB4 hS4 hu4 nG hk3 u0 u1 u2 u3 hk
  go_wp2_with (go_at_call 26; refine (same_both (HB.out.keeps (by (repeat (first | with_reducible exact Keeps.refl _ | with_reducible assumption | with_reducible refine Keeps.alloc ?_ _ | with_reducible refine Keeps.drewN ?_ _ | with_reducible refine Keeps.drew ?_ | refine Keeps.setCell ?_ (by dsimp only; omega) _ | with_reducible refine Keeps.trans ?_ (by assumption)))))).mono ?_; rintro e w5 ⟨rfl, hb5⟩)
  go_ret
  exact ⟨rfl, by (repeat (first | with_reducible exact Keeps.refl _ | with_reducible assumption | with_reducible refine Keeps.alloc ?_ _ | with_reducible refine Keeps.drewN ?_ _ | with_reducible refine Keeps.drew ?_ | refine Keeps.setCell ?_ (by dsimp only; omega) _ | with_reducible refine Keeps.trans ?_ (by assumption)))⟩

end Go.Proofs.Ytedlchpdbpffmaa
