/-
  The walk of store.Leads.
-/
import Derived.Test.YtiacdpoldgfpbaaPStore
namespace Go.Proofs.Ytiacdpoldgfpbaa
set_option linter.unusedSimpArgs false
set_option linter.unusedVariables false
set_option maxHeartbeats 600000
open Go.RowKit

theorem leads_eq (M : St) (f : Int) (e : Edge) (l : Int) (hp : plainB f e l M.n = true) (h2 : ¬ e.to < 2) :
    M.leads f e l = (gsome (look M.cs e.to) && (grec (look M.cs e.to)).form == f && decide (l ≤ (grec (look M.cs e.to)).top) && decide (e.tag ≤ (grec (look M.cs e.to)).top)) := by
  unfold St.leads
  rw [hp]
  simp only [Bool.true_and, decide_eq_false h2, Bool.false_or]
  cases look M.cs e.to with
  | none => rfl
  | some r => show _ = (true && _ && _ && _); simp only [Bool.true_and]; rfl


set_option maxRecDepth 100000 in
theorem leads_low (sb ab : Nat) (f t a l n : Int) (x : Rec) (b : Bool) (w : World) (ht1 : 0 ≤ t) (ht2 : t ≤ 255) (hx : x.ok)
    (c0 : w.cell? ⟨sb, 0, none⟩ = some (.int .i64 n)) (c1 : w.cell? ⟨sb, 1, none⟩ = some (.pointer (some ⟨ab, 0, none⟩)))
    (hget : ∀ W, Keeps w W → Calls Try.prog 85 #[.pointer (some ⟨ab, 0, none⟩), .int .u32 a] W fun e w' => e = .returned (.tuple #[.agg #[.int .u8 x.form, .int .u8 x.top, .int .u8 x.bot, .int .u8 x.lo.tag, .int .u32 x.lo.to, .int .u8 x.hi.tag, .int .u32 x.hi.to], .bool b]) ∧ Keeps W w') :
    Calls Try.prog 49 #[.pointer (some ⟨sb, 0, none⟩), .int .u8 f, .agg #[.int .u8 t, .int .u32 a], .int .i64 l] w fun e w' =>
      e = .returned (.bool (plainB f ⟨t, a⟩ l n && (decide (a < 2) || (b && x.form == f && decide (l ≤ x.top) && decide (t ≤ x.top))))) ∧ Keeps w w' := by
  have hsb : sb < w.heap.size := lt_of_cell c0
  obtain ⟨hx1, ⟨hx2, hx3⟩, hx4, hx5, hx6⟩ := hx
  have H := Lib.hid hget
  clear hget hx1 hx4 hx5 hx6
  have hn1 : w.heap.size + 1 ≠ sb := by omega
  cases hp : plainB f ⟨t, a⟩ l n with
  | false =>
    go_enter Try.func49, Try.ntmps49
    go_wp2_with fail
    go_region_held3 (fun w' => w'.cell? ⟨sb, 0, none⟩ = some (.int .i64 n) ∧ w'.cell? ⟨w.heap.size, 0, none⟩ = some (.int .u8 t) ∧ w'.cell? ⟨w.heap.size, 1, none⟩ = some (.int .u32 a)) (go_keep) ((first | (go_at_call 89; refine (plain_calls _ _ _ _ _ _ (by omega) (by omega)).mono ?_; rintro e' w1 ⟨rfl, hb⟩; have hwb : Keeps (w.alloc (.cells #[.int .u8 t, .int .u32 a] 24)) w1 := (by (repeat (first | with_reducible exact Keeps.refl _ | with_reducible assumption | with_reducible refine Keeps.alloc ?_ _ | with_reducible refine Keeps.drewN ?_ _ | with_reducible refine Keeps.drew ?_ | refine Keeps.setCell ?_ (by dsimp only; omega) _ | with_reducible refine Keeps.trans ?_ (by assumption)))); have z0 : w1.cell? ⟨w.heap.size, 0, none⟩ = some (.int .u8 t) := hwb.cell (by simp); have z1 : w1.cell? ⟨w.heap.size, 1, none⟩ = some (.int .u32 a) := hwb.cell (by simp); have hk : Keeps w w1 := (((Keeps.refl _).alloc _).trans hwb); have hsz := hwb.size; simp only [World.size_alloc] at hsz; have d0 := hk.cell c0; have d1 := hk.cell c1)))
    all_goals (go_wp2; go_ret; exact ⟨rfl, by (repeat (first | with_reducible exact Keeps.refl _ | with_reducible assumption | with_reducible refine Keeps.alloc ?_ _ | with_reducible refine Keeps.drewN ?_ _ | with_reducible refine Keeps.drew ?_ | refine Keeps.setCell ?_ (by dsimp only; omega) _ | with_reducible refine Keeps.trans ?_ (by assumption)))⟩)
  | true =>
    by_cases h2 : a < 2
    · go_enter Try.func49, Try.ntmps49
      go_wp2_with fail
      go_region_held3 (fun w' => w'.cell? ⟨sb, 0, none⟩ = some (.int .i64 n) ∧ w'.cell? ⟨w.heap.size, 0, none⟩ = some (.int .u8 t) ∧ w'.cell? ⟨w.heap.size, 1, none⟩ = some (.int .u32 a)) (go_keep) ((first | (go_at_call 89; refine (plain_calls _ _ _ _ _ _ (by omega) (by omega)).mono ?_; rintro e' w1 ⟨rfl, hb⟩; have hwb : Keeps (w.alloc (.cells #[.int .u8 t, .int .u32 a] 24)) w1 := (by (repeat (first | with_reducible exact Keeps.refl _ | with_reducible assumption | with_reducible refine Keeps.alloc ?_ _ | with_reducible refine Keeps.drewN ?_ _ | with_reducible refine Keeps.drew ?_ | refine Keeps.setCell ?_ (by dsimp only; omega) _ | with_reducible refine Keeps.trans ?_ (by assumption)))); have z0 : w1.cell? ⟨w.heap.size, 0, none⟩ = some (.int .u8 t) := hwb.cell (by simp); have z1 : w1.cell? ⟨w.heap.size, 1, none⟩ = some (.int .u32 a) := hwb.cell (by simp); have hk : Keeps w w1 := (((Keeps.refl _).alloc _).trans hwb); have hsz := hwb.size; simp only [World.size_alloc] at hsz; have d0 := hk.cell c0; have d1 := hk.cell c1)))
      all_goals (go_wp2; go_ret; exact ⟨by simp [h2], by (repeat (first | with_reducible exact Keeps.refl _ | with_reducible assumption | with_reducible refine Keeps.alloc ?_ _ | with_reducible refine Keeps.drewN ?_ _ | with_reducible refine Keeps.drew ?_ | refine Keeps.setCell ?_ (by dsimp only; omega) _ | with_reducible refine Keeps.trans ?_ (by assumption)))⟩)
    · go_enter Try.func49, Try.ntmps49
      go_wp2_with fail
      go_region_held3 (fun w' => w'.cell? ⟨sb, 0, none⟩ = some (.int .i64 n) ∧ w'.cell? ⟨w.heap.size, 0, none⟩ = some (.int .u8 t) ∧ w'.cell? ⟨w.heap.size, 1, none⟩ = some (.int .u32 a)) (go_keep) ((first | (go_at_call 89; refine (plain_calls _ _ _ _ _ _ (by omega) (by omega)).mono ?_; rintro e' w1 ⟨rfl, hb⟩; have hwb : Keeps (w.alloc (.cells #[.int .u8 t, .int .u32 a] 24)) w1 := (by (repeat (first | with_reducible exact Keeps.refl _ | with_reducible assumption | with_reducible refine Keeps.alloc ?_ _ | with_reducible refine Keeps.drewN ?_ _ | with_reducible refine Keeps.drew ?_ | refine Keeps.setCell ?_ (by dsimp only; omega) _ | with_reducible refine Keeps.trans ?_ (by assumption)))); have z0 : w1.cell? ⟨w.heap.size, 0, none⟩ = some (.int .u8 t) := hwb.cell (by simp); have z1 : w1.cell? ⟨w.heap.size, 1, none⟩ = some (.int .u32 a) := hwb.cell (by simp); have hk : Keeps w w1 := (((Keeps.refl _).alloc _).trans hwb); have hsz := hwb.size; simp only [World.size_alloc] at hsz; have d0 := hk.cell c0; have d1 := hk.cell c1)))
      go_wp2
      have hsb1 : sb < w1.heap.size := by omega
      have hn2 : w1.heap.size ≠ sb := by omega
      have hn3 : w1.heap.size ≠ w.heap.size := by omega
      have HK := Lib.hid hk
      clear hb hk c0 c1 hwb d0
      go_region_held3 (fun w' => w'.cell? ⟨sb, 1, none⟩ = some (.pointer (some ⟨ab, 0, none⟩)) ∧ w'.cell? ⟨w.heap.size, 0, none⟩ = some (.int .u8 t) ∧ w'.cell? ⟨w.heap.size, 1, none⟩ = some (.int .u32 a)) (go_keep) ((first | (go_at_call 85; have hkk := HK.out; refine (H.out _ (by (repeat (first | with_reducible exact Keeps.refl _ | with_reducible assumption | with_reducible refine Keeps.alloc ?_ _ | with_reducible refine Keeps.drewN ?_ _ | with_reducible refine Keeps.drew ?_ | refine Keeps.setCell ?_ (by dsimp only; omega) _ | with_reducible refine Keeps.trans ?_ (by assumption))))).mono ?_; rintro e' w2 ⟨rfl, hb⟩; obtain ⟨hc, hf⟩ := hb.cells; have k2 : Keeps w1 w2 := (by (repeat (first | with_reducible exact Keeps.refl _ | with_reducible assumption | with_reducible refine Keeps.alloc ?_ _ | with_reducible refine Keeps.drewN ?_ _ | with_reducible refine Keeps.drew ?_ | refine Keeps.setCell ?_ (by dsimp only; omega) _ | with_reducible refine Keeps.trans ?_ (by assumption)))); have v0 := k2.cell z0; have v1 := k2.cell z1; have v2 := k2.cell d1; have hsz2 := k2.size; have hn4 : w2.heap.size ≠ sb := (by omega); have hn5 : w2.heap.size ≠ w.heap.size := (by omega); have hz6 : w.heap.size < w2.heap.size := (by omega))))
      all_goals go_wp2
      all_goals (go_ret; have hkk := HK.out; refine ⟨?_, by (repeat (first | with_reducible exact Keeps.refl _ | with_reducible assumption | with_reducible refine Keeps.alloc ?_ _ | with_reducible refine Keeps.drewN ?_ _ | with_reducible refine Keeps.drew ?_ | refine Keeps.setCell ?_ (by dsimp only; omega) _ | with_reducible refine Keeps.trans ?_ (by assumption)))⟩)
      all_goals simp_all
      all_goals (try omega)

theorem store_leads {F : Nat → Prop} {w : World} {sb : Nat} {M : St} (h : StoreRep F w sb M) (f : Int) (e : Edge) (l : Int) (he : e.ok) :
    Calls Try.prog 49 #[.pointer (some ⟨sb, 0, none⟩), .int .u8 f, .agg #[.int .u8 e.tag, .int .u32 e.to], .int .i64 l] w fun r w' => r = .returned (.bool (M.leads f e l)) ∧ Keeps w w' := by
  have hx := h.grec e.to
  obtain ⟨⟨ab, ib, ts, Fa, Fi, h1, h2, -⟩, -⟩ := h
  have c0 : w.cell? ⟨sb, 0, none⟩ = some (.int .i64 M.n) := by rw [cell_of_row w sb 0 _ _ _ h1]; rfl
  have c1 : w.cell? ⟨sb, 1, none⟩ = some (.pointer (some ⟨ab, 0, none⟩)) := by rw [cell_of_row w sb 1 _ _ _ h1]; rfl
  refine (leads_low sb ab f e.tag e.to l M.n (grec (look M.cs e.to)) (gsome (look M.cs e.to)) w he.1.1 he.1.2 hx c0 c1 (fun W hW => arena_get (h2.keeps hW) e.to he.2.2)).mono ?_
  rintro r w' ⟨rfl, hk⟩
  refine ⟨?_, hk⟩
  congr 2
  cases hp : plainB f e l M.n with
  | false => simp [St.leads, hp]
  | true =>
    by_cases h2 : e.to < 2
    · simp [St.leads, hp, h2]
    · rw [leads_eq M f e l hp h2]
      simp [h2]

end Go.Proofs.Ytiacdpoldgfpbaa
