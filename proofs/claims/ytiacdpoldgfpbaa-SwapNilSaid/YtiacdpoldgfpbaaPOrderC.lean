/-
  order.Order: Vars, Perm, Var, Level, Swap.
-/
import Derived.Test.YtiacdpoldgfpbaaPOrderB
import Derived.BigRegion
namespace Go.Proofs.Ytiacdpoldgfpbaa
set_option linter.unusedSimpArgs false
set_option linter.unusedVariables false
set_option maxHeartbeats 600000
open Go.RowKit

theorem RowI.ne {w : World} {g ob : Nat} {ps : List Int} {cs : Array Value} {q : Nat × Nat} (h : RowI w g ps) (ho : w.heap[ob]? = some (.cells cs 131 q)) : g ≠ ob := by
  obtain ⟨cur, h1, _⟩ := h
  intro e
  subst e
  rw [h1] at ho
  have := Option.some.inj ho
  injection this with _ e2 _
  exact absurd e2 (by decide)

theorem OrdRep.cells {F : Nat → Prop} {w : World} {ob : Nat} {ps : List Int} (h : OrdRep F w ob ps) : ∃ va vc lg lc, w.cell? ⟨ob, 0, none⟩ = some (.slice va ps.length vc) ∧ w.cell? ⟨ob, 1, none⟩ = some (.slice (some ⟨lg, 0, none⟩) ps.length lc) ∧ IntsAt w va ps := by
  obtain ⟨⟨va, vc, lg, lc, qs, h1, h2, h3, h4, h5⟩, _⟩ := h
  refine ⟨va, vc, lg, lc, by rw [cell_of_row w ob 0 _ _ _ h1]; rfl, by rw [cell_of_row w ob 1 _ _ _ h1]; rfl, fun i x hx => ?_⟩
  obtain ⟨vg, q1, q2, _⟩ := h3 (fun e => by rw [e] at hx; simp at hx)
  rw [q1]
  exact q2.ints i x hx

theorem OrdRep.pos {F : Nat → Prop} {w : World} {ob : Nat} {ps : List Int} (h : OrdRep F w ob ps) : ob < w.heap.size := h.lt _ h.own

theorem OrdRep.le {F : Nat → Prop} {w : World} {ob : Nat} {ps : List Int} (h : OrdRep F w ob ps) : ps.length ≤ 16 := (permB_iff.1 h.perm).1

theorem ordVars_calls {F : Nat → Prop} {w : World} {ob : Nat} {ps : List Int} (h : OrdRep F w ob ps) :
    Calls Try.prog 106 #[.pointer (some ⟨ob, 0, none⟩)] w fun e w' => e = .returned (.int .i64 (ps.length : Int)) ∧ w = w' := by
  obtain ⟨va, vc, lg, lc, c0, c1, _⟩ := h.cells
  have hle := h.le
  obtain ⟨n, hn⟩ : ∃ n, n = ps.length := ⟨_, rfl⟩
  rw [← hn] at c0 c1 hle ⊢
  clear h c1 hn
  go_enter Try.func106, Try.ntmps106
  go_wp2
  go_ret
  exact ⟨rfl, rfl⟩

def stepL (ps : List Int) (i : Nat) : List Int := (ps.set i (ps.getD (i + 1) 0)).set (i + 1) (ps.getD i 0)

theorem stepL_len (ps : List Int) (i : Nat) : (stepL ps i).length = ps.length := by unfold stepL; simp

theorem stepL_get {ps : List Int} {i : Nat} (h : i + 1 < ps.length) (j : Nat) : (stepL ps i)[j]? = if j = i then ps[i + 1]? else if j = i + 1 then ps[i]? else ps[j]? := by
  unfold stepL
  rw [List.getElem?_set, List.getElem?_set]
  have e1 : ps[i + 1]? = some (ps.getD (i + 1) 0) := by simp [List.getD, h]
  have e2 : ps[i]? = some (ps.getD i 0) := by simp [List.getD, show i < ps.length by omega]
  by_cases hj : j = i
  · subst hj
    rw [if_neg (by omega), if_pos rfl, if_pos (by omega), if_pos rfl, e1]
  · by_cases hj2 : j = i + 1
    · subst hj2
      rw [if_pos rfl, if_pos (by simpa using h), if_neg hj, if_pos rfl, e2]
    · rw [if_neg (by omega), if_neg (by omega), if_neg hj, if_neg hj2]

theorem stepL_mem {ps : List Int} {i : Nat} (h : i + 1 < ps.length) (x : Int) : x ∈ stepL ps i ↔ x ∈ ps := by
  rw [List.mem_iff_getElem?, List.mem_iff_getElem?]
  constructor
  · rintro ⟨j, hj⟩
    rw [stepL_get h] at hj
    split at hj
    · exact ⟨_, hj⟩
    · split at hj
      · exact ⟨_, hj⟩
      · exact ⟨_, hj⟩
  · rintro ⟨j, hj⟩
    by_cases h1 : j = i
    · refine ⟨i + 1, ?_⟩
      rw [stepL_get h, if_neg (by omega), if_pos rfl, ← h1]
      exact hj
    · by_cases h2 : j = i + 1
      · refine ⟨i, ?_⟩
        rw [stepL_get h, if_pos rfl, ← h2]
        exact hj
      · refine ⟨j, ?_⟩
        rw [stepL_get h, if_neg h1, if_neg h2]
        exact hj

theorem nodup_get {ps : List Int} (h : ps.Nodup) {i j : Nat} {x : Int} (hi : ps[i]? = some x) (hj : ps[j]? = some x) : i = j := by
  obtain ⟨l1, e1⟩ := List.getElem?_eq_some_iff.1 hi
  obtain ⟨l2, e2⟩ := List.getElem?_eq_some_iff.1 hj
  exact (List.getElem_inj h).1 (e1.trans e2.symm)

theorem stepL_perm {ps : List Int} {i : Nat} (h : i + 1 < ps.length) (hp : permB ps = true) : permB (stepL ps i) = true := by
  obtain ⟨h1, h2, h3⟩ := permB_iff.1 hp
  refine permB_iff.2 ⟨by rw [stepL_len]; exact h1, fun x hx => by rw [stepL_len]; exact h2 x ((stepL_mem h x).1 hx), ?_⟩
  refine List.pairwise_iff_getElem.2 fun a b h4 h5 hlt e => ?_
  have ha : (stepL ps i)[a]? = some (stepL ps i)[a] := List.getElem?_eq_getElem h4
  have hb : (stepL ps i)[b]? = some (stepL ps i)[a] := by rw [e]; exact List.getElem?_eq_getElem h5
  rw [stepL_get h] at ha hb
  have key : ∀ {p q : Nat}, ps[p]? = some (stepL ps i)[a] → ps[q]? = some (stepL ps i)[a] → p = q := fun hp hq => nodup_get h3 hp hq
  split at ha
  · split at hb
    · omega
    · split at hb
      · have := key ha hb; omega
      · have := key ha hb; omega
  · split at ha
    · split at hb
      · have := key ha hb; omega
      · split at hb
        · omega
        · have := key ha hb; omega
    · split at hb
      · have := key ha hb; omega
      · split at hb
        · have := key ha hb; omega
        · have := key ha hb; omega

theorem stepL_inv {ps qs : List Int} {i : Nat} {a b : Int} (h : i + 1 < ps.length) (hp : permB ps = true) (hq : InvOf ps qs) (ha : ps[i]? = some a) (hb : ps[i + 1]? = some b) :
    InvOf (stepL ps i) ((qs.set a.toNat ((i : Int) + 1)).set b.toNat (i : Int)) := by
  obtain ⟨h1, h2, h3⟩ := permB_iff.1 hp
  obtain ⟨q1, q2⟩ := hq
  have ra := h2 a (List.mem_of_getElem? ha)
  have rb := h2 b (List.mem_of_getElem? hb)
  have hne : a ≠ b := fun e => by subst e; have := nodup_get h3 ha hb; omega
  refine ⟨by rw [List.length_set, List.length_set, stepL_len, q1], fun j x hx => ?_⟩
  rw [stepL_get h] at hx
  rw [List.getElem?_set, List.getElem?_set]
  split at hx
  · rename_i hj
    rw [hb] at hx
    cases hx
    rw [if_pos rfl, if_pos (by rw [List.length_set, q1]; omega), hj]
  · rename_i hj
    split at hx
    · rename_i hj2
      rw [ha] at hx
      cases hx
      rw [if_neg (by omega), if_pos rfl, if_pos (by rw [q1]; omega), hj2]
      push_cast
      rfl
    · rename_i hj2
      have rx := h2 x (List.mem_of_getElem? hx)
      have n1 : x ≠ a := fun e => by subst e; exact hj (nodup_get h3 hx ha)
      have n2 : x ≠ b := fun e => by subst e; exact hj2 (nodup_get h3 hx hb)
      rw [if_neg (by omega), if_neg (by omega)]
      exact q2 j x hx

set_option maxRecDepth 100000 in
set_option maxHeartbeats 2000000 in
theorem ordSwap_calls {F : Nat → Prop} {w : World} {ob : Nat} {ps : List Int} (h : OrdRep F w ob ps) (lv : Nat) (hlv : lv + 1 < ps.length) :
    Calls Try.prog 109 #[.pointer (some ⟨ob, 0, none⟩), .int .i64 (lv : Int)] w fun e w' => e = .returned (.int .u8 0) ∧ Upd F w w' ∧ OrdRep F w' ob (stepL ps lv) := by
  have H := Lib.hid h
  have hle := h.le
  obtain ⟨⟨va, vc, lg, lc, qs, h1, h2, h3, h4, h5⟩, h6, h7, h8⟩ := h
  obtain ⟨vg, rfl, v1, v2, v3⟩ := h3 (fun e => by rw [e] at hlv; simp at hlv)
  obtain ⟨p1, p2, p3⟩ := permB_iff.1 h8
  obtain ⟨a, ha⟩ : ∃ b, ps[lv]? = some b := ⟨_, List.getElem?_eq_getElem (by omega)⟩
  obtain ⟨b, hb⟩ : ∃ b, ps[lv + 1]? = some b := ⟨_, List.getElem?_eq_getElem hlv⟩
  have ra := p2 a (List.mem_of_getElem? ha)
  have rb := p2 b (List.mem_of_getElem? hb)
  have hne : a ≠ b := fun e => by subst e; have := nodup_get p3 ha hb; omega
  have n1 := v1.ne h1
  have n2 := h4.ne h1
  have c0 : w.cell? ⟨ob, 0, none⟩ = some (.slice (some ⟨vg, 0, none⟩) ps.length vc) := by rw [cell_of_row w ob 0 _ _ _ h1]; rfl
  have c1 : w.cell? ⟨ob, 1, none⟩ = some (.slice (some ⟨lg, 0, none⟩) ps.length lc) := by rw [cell_of_row w ob 1 _ _ _ h1]; rfl
  have ca := v1.cell ha
  have cb := v1.cell hb
  have fa := v1.frozen lv
  have fb := v1.frozen (lv + 1)
  obtain ⟨A, rfl⟩ : ∃ A : Nat, a = (A : Int) := ⟨a.toNat, by omega⟩
  obtain ⟨B, rfl⟩ : ∃ B : Nat, b = (B : Int) := ⟨b.toNat, by omega⟩
  obtain ⟨qa, hqa⟩ : ∃ b, qs[A]? = some b := ⟨_, List.getElem?_eq_getElem (by rw [h2.1]; omega)⟩
  obtain ⟨qb, hqb⟩ : ∃ b, qs[B]? = some b := ⟨_, List.getElem?_eq_getElem (by rw [h2.1]; omega)⟩
  have da := h4.cell hqa
  have db := h4.cell hqb
  have ga := h4.frozen A
  have gb := h4.frozen B
  have hAB : A ≠ B := by omega
  have hfin : ∀ d W', W' = (((((w.drewN d).setCell ⟨vg, lv, none⟩ (.int .i64 (B : Int))).setCell ⟨vg, lv + 1, none⟩ (.int .i64 (A : Int))).setCell ⟨lg, A, none⟩ (.int .i64 ((lv : Int) + 1))).setCell ⟨lg, B, none⟩ (.int .i64 (lv : Int))).drew → Upd F w W' ∧ OrdRep F W' ob (stepL ps lv) := by
    rintro d W' rfl
    have kd : Keeps w (w.drewN d) := (Keeps.refl w).drewN d
    obtain ⟨w0, hw0⟩ : ∃ w0, w0 = w.drewN d := ⟨_, rfl⟩
    rw [← hw0] at kd ⊢
    replace v1 := v1.keeps kd
    replace h4 := h4.keeps kd
    replace h1 := kd.heap h1
    have u1 : Upd (fun k => k = vg) w0 ((w0.setCell ⟨vg, lv, none⟩ (.int .i64 (B : Int))).setCell ⟨vg, lv + 1, none⟩ (.int .i64 (A : Int))) := Upd.setCell (F := fun k => k = vg) (p := ⟨vg, lv + 1, none⟩) (Upd.setCell (F := fun k => k = vg) (p := ⟨vg, lv, none⟩) (Upd.refl _ _) (.inl rfl) _) (.inl rfl) _
    obtain ⟨w2, hw2⟩ : ∃ w2, w2 = (w0.setCell ⟨vg, lv, none⟩ (.int .i64 (B : Int))).setCell ⟨vg, lv + 1, none⟩ (.int .i64 (A : Int)) := ⟨_, rfl⟩
    have r1 : RowI w2 vg (stepL ps lv) := by
      rw [hw2]
      unfold stepL
      have e1 : ps.getD (lv + 1) 0 = (B : Int) := by simp [List.getD, hb]
      have e2 : ps.getD lv 0 = (A : Int) := by simp [List.getD, ha]
      rw [e1, e2]
      exact (v1.set lv (B : Int) (by omega)).set (lv + 1) (A : Int) (by simpa using hlv)
    rw [← hw2] at u1 ⊢
    have r2 : RowI ((w2.setCell ⟨lg, A, none⟩ (.int .i64 ((lv : Int) + 1))).setCell ⟨lg, B, none⟩ (.int .i64 (lv : Int))) lg ((qs.set A ((lv : Int) + 1)).set B (lv : Int)) :=
      ((h4.keep u1 (fun e => v3 e.symm)).set A _ (by rw [h2.1]; omega)).set B _ (by rw [List.length_set, h2.1]; omega)
    have u2 : Upd (fun k => k = lg) w2 ((w2.setCell ⟨lg, A, none⟩ (.int .i64 ((lv : Int) + 1))).setCell ⟨lg, B, none⟩ (.int .i64 (lv : Int))) := Upd.setCell (F := fun k => k = lg) (p := ⟨lg, B, none⟩) (Upd.setCell (F := fun k => k = lg) (p := ⟨lg, A, none⟩) (Upd.refl _ _) (.inl rfl) _) (.inl rfl) _
    have u3 := (kd.upd F).trans' ((u1.mono (G := F) (fun k _ e => by subst e; exact v2)).trans' (u2.mono (G := F) (fun k _ e => by subst e; exact h5)))
    have hO : OrdRep F ((w2.setCell ⟨lg, A, none⟩ (.int .i64 ((lv : Int) + 1))).setCell ⟨lg, B, none⟩ (.int .i64 (lv : Int))) ob (stepL ps lv) := by
      refine ⟨⟨some ⟨vg, 0, none⟩, vc, lg, lc, _, ?_, stepL_inv hlv h8 h2 ha hb, fun _ => ⟨vg, rfl, r1.keep u2 v3, v2, v3⟩, r2, h5⟩, h6, fun k hk => by have := h7 k hk; have := u3.size; omega, stepL_perm hlv h8⟩
      rw [stepL_len]
      have q1 := u1.block ob (lt_of_heap h1) (fun e => n1 e.symm)
      have q2 := u2.block ob (by have := u1.size; have := lt_of_heap h1; omega) (fun e => n2 e.symm)
      rw [q2, q1]
      exact h1
    exact ⟨u3.drew, hO.keeps (Keeps.refl _).drew⟩
  have HFIN := Lib.hid hfin
  obtain ⟨n, hn⟩ : ∃ n, n = ps.length := ⟨_, rfl⟩
  rw [← hn] at c0 c1 hle hlv ra rb
  have hA : A < n := by omega
  have hB : B < n := by omega
  have nvl : vg ≠ lg := v3
  have nlv : lg ≠ vg := fun e => v3 e.symm
  have n1' : ob ≠ vg := fun e => n1 e.symm
  have n2' : ob ≠ lg := fun e => n2 e.symm
  clear H h1 h2 h3 h4 h5 h6 h7 h8 v1 v2 v3 p1 p2 p3 ha hb ra rb hne hqa hqb hfin hn
  go_enter Try.func109, Try.ntmps109
  go_wp2_with fail
  go_quiet (fail)
  go_wp2_with fail
  go_region
  go_wp2_with fail
  go_region
  go_wp2_with fail
  go_ret
  exact ⟨rfl, HFIN.out _ _ rfl⟩

end Go.Proofs.Ytiacdpoldgfpbaa
