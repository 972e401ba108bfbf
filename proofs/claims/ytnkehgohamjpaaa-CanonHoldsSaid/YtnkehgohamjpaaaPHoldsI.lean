/-
  ramageref17.Holds over the state.
-/
import Derived.Test.YtnkehgohamjpaaaPHoldsG
import Derived.Test.YtnkehgohamjpaaaPHoldsH
namespace Go.Proofs.Ytnkehgohamjpaaa
set_option linter.unusedSimpArgs false
set_option linter.unusedVariables false
set_option maxHeartbeats 600000
open Go.RowKit

set_option maxRecDepth 100000 in
theorem rh_zero (sb : Nat) (f l x i : Int) (e : Edge) (w : World) (hz : e.to = 0)
    (ha : ∀ W, Keeps w W → Calls Try.prog 66 #[.pointer (some ⟨sb, 0, none⟩), .int .u32 e.to] W fun r w' => r = .returned (.int .i64 i) ∧ W = w') :
    Calls Try.prog 59 #[.pointer (some ⟨sb, 0, none⟩), .int .u8 f, .agg #[.int .u8 e.tag, .int .u32 e.to], .int .i64 l, .int .i64 x] w fun r w' => r = .returned (.bool false) ∧ Keeps w w' := by
  obtain ⟨tg, a⟩ := e
  dsimp only at hz ha ⊢
  subst hz
  have HA := Lib.hid ha
  clear ha
  go_enter Try.func59, Try.ntmps59
  go_wp2_with (first | (go_at_call 66; refine (HA.out _ (by (repeat (first | with_reducible exact Keeps.refl _ | with_reducible assumption | with_reducible refine Keeps.alloc ?_ _ | with_reducible refine Keeps.drewN ?_ _ | with_reducible refine Keeps.drew ?_ | refine Keeps.setCell ?_ (by dsimp only; omega) _ | with_reducible refine Keeps.trans ?_ (by assumption))))).mono ?_; rintro e2 w2 ⟨rfl, rfl⟩) | fail)
  go_ret
  exact ⟨rfl, by (repeat (first | with_reducible exact Keeps.refl _ | with_reducible assumption | with_reducible refine Keeps.alloc ?_ _ | with_reducible refine Keeps.drewN ?_ _ | with_reducible refine Keeps.drew ?_ | refine Keeps.setCell ?_ (by dsimp only; omega) _ | with_reducible refine Keeps.trans ?_ (by assumption)))⟩

set_option maxRecDepth 100000 in
theorem rh_end (sb : Nat) (f l n x : Int) (e : Edge) (w : World) (hsb : sb < w.heap.size) (hz : e.to ≠ 0) (ho : e.ok) (hl : n ≤ l) (c3 : w.cell? ⟨sb, 3, none⟩ = some (.int .i64 n))
    (ha : ∀ W, Keeps w W → Calls Try.prog 66 #[.pointer (some ⟨sb, 0, none⟩), .int .u32 e.to] W fun r w' => r = .returned (.int .i64 (-1)) ∧ W = w') :
    Calls Try.prog 59 #[.pointer (some ⟨sb, 0, none⟩), .int .u8 f, .agg #[.int .u8 e.tag, .int .u32 e.to], .int .i64 l, .int .i64 x] w fun r w' => r = .returned (.bool true) ∧ Keeps w w' := by
  have hsb1 : sb < w.heap.size + 1 := by omega
  have HA := Lib.hid ha
  have hp : 0 < e.to := by have := ho.2.1; omega
  clear ha
  go_enter Try.func59, Try.ntmps59
  go_wp2_with (first | (go_at_call 66; refine (HA.out _ (by (repeat (first | with_reducible exact Keeps.refl _ | with_reducible assumption | with_reducible refine Keeps.alloc ?_ _ | with_reducible refine Keeps.drewN ?_ _ | with_reducible refine Keeps.drew ?_ | refine Keeps.setCell ?_ (by dsimp only; omega) _ | with_reducible refine Keeps.trans ?_ (by assumption))))).mono ?_; rintro e2 w2 ⟨rfl, rfl⟩) | fail)
  all_goals first | (exfalso; omega) | (go_ret; exact ⟨rfl, by (repeat (first | with_reducible exact Keeps.refl _ | with_reducible assumption | with_reducible refine Keeps.alloc ?_ _ | with_reducible refine Keeps.drewN ?_ _ | with_reducible refine Keeps.drew ?_ | refine Keeps.setCell ?_ (by dsimp only; omega) _ | with_reducible refine Keeps.trans ?_ (by assumption)))⟩)

theorem rholds_calls {F : Nat → Prop} {w : World} {sb : Nat} {M : St} {L : List (Int × Rec)} (h : RefRep F w sb M L) (f x : Int) (hf : 1 ≤ f ∧ f ≤ 5) (hx0 : 0 ≤ x) (hx1 : x ≤ 65535) :
    ∀ (K : Nat) (l : Int) (e : Edge) (W : World), Keeps w W → e.ok → 0 ≤ l → l ≤ M.n → M.n - l ≤ (K : Int) → (∀ r, look M.cs e.to = some r → r.form = f ∧ l ≤ r.top) →
      Calls Try.prog 59 #[.pointer (some ⟨sb, 0, none⟩), .int .u8 f, .agg #[.int .u8 e.tag, .int .u32 e.to], .int .i64 l, .int .i64 x] W fun r w' => r = .returned (.bool (hS M f x K l e)) ∧ Keeps W w' := by
  have n16 := h.wf.n16
  have zero : ∀ (K : Nat) (l : Int) (e : Edge) (W : World), Keeps w W → e.to = 0 → Calls Try.prog 59 #[.pointer (some ⟨sb, 0, none⟩), .int .u8 f, .agg #[.int .u8 e.tag, .int .u32 e.to], .int .i64 l, .int .i64 x] W fun r w' => r = .returned (.bool (hS M f x K l e)) ∧ Keeps W w' := by
    intro K l e W hW hz
    have hh : hS M f x K l e = false := by
      cases K with
      | zero => exact decide_eq_false (fun hh => hh hz)
      | succ K => show (if e.to = 0 then false else _) = false; rw [if_pos hz]
    rw [hh]
    exact rh_zero sb f l x _ e W hz (fun W2 h2 => ref_at (h.keeps (hW.trans h2)) e.to)
  have stop : ∀ (K : Nat) (l : Int) (e : Edge) (W : World), Keeps w W → e.to ≠ 0 → e.ok → M.n ≤ l → (∀ r, look M.cs e.to = some r → r.form = f ∧ l ≤ r.top) → Calls Try.prog 59 #[.pointer (some ⟨sb, 0, none⟩), .int .u8 f, .agg #[.int .u8 e.tag, .int .u32 e.to], .int .i64 l, .int .i64 x] W fun r w' => r = .returned (.bool (hS M f x K l e)) ∧ Keeps W w' := by
    intro K l e W hW hz ho hl hr
    have hh : hS M f x K l e = true := by
      cases K with
      | zero => exact decide_eq_true hz
      | succ K => show (if e.to = 0 then false else if M.n ≤ l then true else _) = true; rw [if_neg hz, if_pos hl]
    rw [hh]
    have hW2 := h.keeps hW
    refine rh_end sb f l M.n x e W hW2.pos hz ho hl hW2.vars (fun W2 h2 => ?_)
    have hat := ref_at (hW2.keeps h2) e.to
    rcases atI_look h e.to with ⟨r, hx, _⟩ | ⟨_, _, hq⟩
    · have := (hr r hx).2
      have := (h.wf.goodRec hx).tb
      have := (h.wf.goodRec hx).bn
      omega
    · rw [hq] at hat
      exact hat
  intro K
  induction K with
  | zero =>
    intro l e W hW ho hl0 hl1 hK hr
    by_cases hz : e.to = 0
    · exact zero 0 l e W hW hz
    · exact stop 0 l e W hW hz ho (by omega) hr
  | succ K ih =>
    intro l e W hW ho hl0 hl1 hK hr
    by_cases hz : e.to = 0
    · exact zero (K + 1) l e W hW hz
    · by_cases hl : M.n ≤ l
      · exact stop (K + 1) l e W hW hz ho hl hr
      · have hW2 := h.keeps hW
        have hat := fun (W2 : World) (h2 : Keeps W W2) => ref_at (hW2.keeps h2) e.to
        have hv := fun (W2 : World) (k : Int) (k0 : 0 ≤ k) (k1 : k ≤ 16) => value_calls x k W2 hx0 hx1 k0 k1
        rcases atI_look hW2 e.to with ⟨r, hk, D, hLD, _, hDl, hq⟩ | ⟨hk, _, hq⟩
        · obtain ⟨lb, cap, q0, ql, qm, q1, q2, q3, q4, q5, q6, q7⟩ := hW2.node hLD
          obtain ⟨hfr, hlt⟩ := hr r hk
          have hok : r.ok := h.fit _ (List.mem_of_getElem? hLD)
          have gr := h.wf.goodRec hk
          rw [hq] at hat
          by_cases hlt2 : l < r.top
          · have hh : hS M f x (K + 1) l e = (if zeroAt f e l && bitB x l then false else hS M f x K (l + 1) e) := by
              show (if e.to = 0 then false else if M.n ≤ l then true else match look M.cs e.to with | none => _ | some r => _) = _
              rw [if_neg hz, if_neg hl, hk]
              show (if l < r.top then _ else _) = _
              rw [if_pos hlt2]
            rw [hh]
            exact rh_above sb f l M.n x e _ _ W hW2.pos hf hz ho hl0 (by omega) n16 hW2.vars r.top lb D L.length cap hok.top.1 hok.top.2 hlt2 q0 ql qm q2 hat (fun W2 => hv W2 l hl0 (by omega)) (fun W2 h2 => ih (l + 1) e W2 (hW.trans h2) ho (by omega) (by omega) (by push_cast at hK; omega) (fun r2 hr2 => by rw [hk] at hr2; cases hr2; exact ⟨hfr, by omega⟩))
          · have e1 : l = r.top := by omega
            have hh : hS M f x (K + 1) l e = hS M f x K (r.bot + 1) (sideE x r) := by
              show (if e.to = 0 then false else if M.n ≤ l then true else match look M.cs e.to with | none => _ | some r => _) = _
              rw [if_neg hz, if_neg hl, hk]
              show (if l < r.top then _ else _) = _
              rw [if_neg hlt2]
            rw [hh, e1]
            have tb := gr.tb
            have bn := gr.bn
            have hsl := side_leads (x := x) h.wf hk
            rw [hfr] at hsl
            exact rh_node sb f M.n x e r _ W hW2.pos hfr hz ho hok tb bn n16 hW2.vars lb D L.length cap q0 ql qm q1 q2 q3 q4 q5 q6 q7 hat hv (fun W2 h2 => ih (r.bot + 1) (sideE x r) W2 (hW.trans h2) (by unfold sideE; split; exact hok.hi; exact hok.lo) (by have := hok.bot.1; omega) (by omega) (by push_cast at hK; omega) (fun r2 hr2 => by obtain ⟨a, b, _⟩ := leads_some hsl hr2; exact ⟨a, b⟩))
        · rw [hq] at hat
          have hh : hS M f x (K + 1) l e = (if zeroAt f e l && bitB x l then false else hS M f x K (l + 1) e) := by
            show (if e.to = 0 then false else if M.n ≤ l then true else match look M.cs e.to with | none => _ | some r => _) = _
            rw [if_neg hz, if_neg hl, hk]
          rw [hh]
          exact rh_left sb f l M.n x e _ _ W hW2.pos hf hz ho hl0 (by omega) n16 hW2.vars hat (fun W2 => hv W2 l hl0 (by omega)) (fun W2 h2 => ih (l + 1) e W2 (hW.trans h2) ho (by omega) (by omega) (by push_cast at hK; omega) (fun r2 hr2 => by rw [hk] at hr2; cases hr2))

end Go.Proofs.Ytnkehgohamjpaaa
