/-
  tbdd.Make and ramageref16.Make over the state.
-/
import Derived.Test.YtimffidpbcflaaaTMakeF
namespace Go.Proofs.Ytimffidpbcflaaa
set_option linter.unusedSimpArgs false
set_option linter.unusedVariables false
set_option maxHeartbeats 600000
open Go.RowKit

theorem StoreRep.stay {F : Nat → Prop} {w w' : World} {sb : Nat} {M : St} (h : StoreRep F w sb M) (hk : Keeps w w') : Upd F w w' ∧ StoreRep (Grow F w w') w' sb M :=
  ⟨hk.upd F, (h.keeps hk).mono (fun _ h => .inl h) (fun k hk' => by rcases hk' with h' | h'; exact (h.keeps hk).lt k h'; exact h'.2)⟩

theorem RefRep.stay {F : Nat → Prop} {w w' : World} {mb : Nat} {M : St} {L : List (Int × Rec)} (h : RefRep F w mb M L) (hk : Keeps w w') : Upd F w w' ∧ RefRep (Grow F w w') w' mb M L :=
  ⟨hk.upd F, (h.keeps hk).mono (fun _ h => .inl h) (fun k hk' => by rcases hk' with h' | h'; exact (h.keeps hk).lt k h'; exact h'.2)⟩

/-- What found tells: an edge with a tag. -/
def foundE (M : St) (tag : Int) (r : Rec) : Edge := if M.findErr r = 0 then ⟨tag, M.findId r⟩ else ⟨0, 0⟩

theorem StoreRep.pos {F : Nat → Prop} {w : World} {sb : Nat} {M : St} (h : StoreRep F w sb M) : sb < w.heap.size := h.lt _ h.own

theorem RefRep.pos {F : Nat → Prop} {w : World} {mb : Nat} {M : St} {L : List (Int × Rec)} (h : RefRep F w mb M L) : mb < w.heap.size := h.lt _ h.own

theorem RefRep.vars {F : Nat → Prop} {w : World} {mb : Nat} {M : St} {L : List (Int × Rec)} (h : RefRep F w mb M L) : w.cell? ⟨mb, 3, none⟩ = some (.int .i64 M.n) := by
  obtain ⟨⟨lv, gv, h1, -⟩, -⟩ := h
  rw [cell_of_row w mb 3 _ _ _ h1]
  rfl

theorem tbdd_found {F : Nat → Prop} {w : World} {sb : Nat} {M : St} (h : StoreRep F w sb M) (r : Rec) (hr : r.ok) :
    Calls Try.prog 61 #[.pointer (some ⟨sb, 0, none⟩), .agg #[.int .u8 r.form, .int .u8 r.top, .int .u8 r.bot, .int .u8 r.lo.tag, .int .u32 r.lo.to, .int .u8 r.hi.tag, .int .u32 r.hi.to]] w fun e w' => e = .returned (.tuple #[.agg #[.int .u8 (foundE M r.top r).tag, .int .u32 (foundE M r.top r).to], .int .u8 (M.findErr r)]) ∧ Upd F w w' ∧ StoreRep (Grow F w w') w' sb (M.findSt r) := by
  have hf := fun (W : World) (hW : Keeps w W) => store_find (h.keeps hW) r hr
  by_cases he : M.findErr r = 0
  · have e1 : foundE M r.top r = ⟨r.top, M.findId r⟩ := if_pos he
    rw [e1, he]
    rw [he] at hf
    refine (tfound_ok sb r (M.findId r) w h.pos h.lt (fun W W1 => StoreRep (Grow F W W1) W1 sb (M.findSt r)) hf).mono ?_
    rintro e w' ⟨rfl, W, W1, h1, h2, h3, h4⟩
    exact ⟨rfl, h3.after h.lt h1 h2 h4⟩
  · have e1 : foundE M r.top r = ⟨0, 0⟩ := if_neg he
    rw [e1]
    refine (tfound_bad sb r (M.findId r) (M.findErr r) he w h.pos h.lt (fun W W1 => StoreRep (Grow F W W1) W1 sb (M.findSt r)) hf).mono ?_
    rintro e w' ⟨rfl, W, W1, h1, h2, h3, h4⟩
    exact ⟨rfl, h3.after h.lt h1 h2 h4⟩

/-- What Make does: it tells an edge and an error, or looks for a record. -/
def tAct (M : St) (l : Int) (lo hi : Edge) : (Edge × Int) ⊕ Rec :=
  if l < 0 ∨ M.n ≤ l then .inl (⟨0, 0⟩, 3)
  else if M.leads 5 lo (l + 1) = false ∨ M.leads 5 hi (l + 1) = false then .inl (⟨0, 0⟩, 1)
  else if lo = hi then .inl (lo, 0)
  else if hi.to = 0 ∧ lo.tag = l + 1 then .inl (⟨l, lo.to⟩, 0)
  else .inr ⟨5, l, l, lo, hi⟩

def actE (M : St) : (Edge × Int) ⊕ Rec → Edge | .inl x => x.1 | .inr r => foundE M r.top r
def actErr (M : St) : (Edge × Int) ⊕ Rec → Int | .inl x => x.2 | .inr r => M.findErr r
def actSt (M : St) : (Edge × Int) ⊕ Rec → St | .inl _ => M | .inr r => M.findSt r
def actL (M : St) (L : List (Int × Rec)) : (Edge × Int) ⊕ Rec → List (Int × Rec) | .inl _ => L | .inr r => refL M L r

theorem bool_cases (b : Bool) : b = false ∨ b = true := by cases b <;> simp

theorem tbdd_make {F : Nat → Prop} {w : World} {sb : Nat} {M : St} (h : StoreRep F w sb M) (l : Int) (lo hi : Edge) (hlo : lo.ok) (hhi : hi.ok) :
    Calls Try.prog 19 #[.pointer (some ⟨sb, 0, none⟩), .int .i64 l, .agg #[.int .u8 lo.tag, .int .u32 lo.to], .agg #[.int .u8 hi.tag, .int .u32 hi.to]] w fun e w' =>
      e = .returned (.tuple #[.agg #[.int .u8 (actE M (tAct M l lo hi)).tag, .int .u32 (actE M (tAct M l lo hi)).to], .int .u8 (actErr M (tAct M l lo hi))]) ∧ Upd F w w' ∧ StoreRep (Grow F w w') w' sb (actSt M (tAct M l lo hi)) := by
  have hn := h.wf.n16
  have hv := fun (W : World) (hW : Keeps w W) => store_vars (h.keeps hW)
  have hl1 := fun (W : World) (hW : Keeps w W) => store_leads (h.keeps hW) 5 lo (l + 1) hlo
  have hl2 := fun (W : World) (hW : Keeps w W) => store_leads (h.keeps hW) 5 hi (l + 1) hhi
  by_cases c1 : l < 0 ∨ M.n ≤ l
  · have e : tAct M l lo hi = .inl (⟨0, 0⟩, 3) := if_pos c1
    rw [e]
    by_cases c0 : l < 0
    · exact (tmake_neg sb l M.n lo hi w hn h.pos hv c0).mono fun e w' he => ⟨he.1, h.stay he.2⟩
    · exact (tmake_big sb l M.n lo hi w hn h.pos hv (by omega) (by omega)).mono fun e w' he => ⟨he.1, h.stay he.2⟩
  · have h0 : 0 ≤ l := by omega
    have h1 : l < M.n := by omega
    by_cases c2 : M.leads 5 lo (l + 1) = false ∨ M.leads 5 hi (l + 1) = false
    · have e : tAct M l lo hi = .inl (⟨0, 0⟩, 1) := by unfold tAct; rw [if_neg c1, if_pos c2]
      rw [e]
      rcases bool_cases (M.leads 5 lo (l + 1)) with b1 | b1
      · rw [b1] at hl1
        exact (tmake_lo sb l M.n lo hi w hn h.pos hv h0 h1 hl1).mono fun e w' he => ⟨he.1, h.stay he.2⟩
      · rcases c2 with c2 | b2
        · rw [c2] at b1; cases b1
        · rw [b1] at hl1
          rw [b2] at hl2
          exact (tmake_hi sb l M.n lo hi w hn h.pos hv h0 h1 hl1 hl2).mono fun e w' he => ⟨he.1, h.stay he.2⟩
    · have b1 : M.leads 5 lo (l + 1) = true := by rcases bool_cases (M.leads 5 lo (l + 1)) with b | b; exact (c2 (.inl b)).elim; exact b
      have b2 : M.leads 5 hi (l + 1) = true := by rcases bool_cases (M.leads 5 hi (l + 1)) with b | b; exact (c2 (.inr b)).elim; exact b
      rw [b1] at hl1
      rw [b2] at hl2
      by_cases c3 : lo = hi
      · have e : tAct M l lo hi = .inl (lo, 0) := by unfold tAct; rw [if_neg c1, if_neg c2, if_pos c3]
        rw [e]
        exact (tmake_same sb l M.n lo hi w hn h.pos hv h0 h1 c3 hl1 hl2).mono fun e w' he => ⟨he.1, h.stay he.2⟩
      · by_cases c4 : hi.to = 0 ∧ lo.tag = l + 1
        · have e : tAct M l lo hi = .inl (⟨l, lo.to⟩, 0) := by unfold tAct; rw [if_neg c1, if_neg c2, if_neg c3, if_pos c4]
          rw [e]
          obtain ⟨lt, la⟩ := lo
          obtain ⟨ht, ha⟩ := hi
          obtain ⟨d1, d2⟩ := c4
          dsimp only at d1 d2
          subst d1
          subst d2
          exact (tmake_up sb l M.n la ht w hn h.pos hv h0 h1 c3 hl1 hl2).mono fun e w' he => ⟨he.1, h.stay he.2⟩
        · have e : tAct M l lo hi = .inr ⟨5, l, l, lo, hi⟩ := by unfold tAct; rw [if_neg c1, if_neg c2, if_neg c3, if_neg c4]
          rw [e]
          have hr : (⟨5, l, l, lo, hi⟩ : Rec).ok := ⟨⟨by show (0 : Int) ≤ 5; decide, by show (5 : Int) ≤ 255; decide⟩, ⟨h0, by show l ≤ 255; omega⟩, ⟨h0, by show l ≤ 255; omega⟩, hlo, hhi⟩
          have hf := fun (W : World) (hW : Keeps w W) => tbdd_found (h.keeps hW) ⟨5, l, l, lo, hi⟩ hr
          by_cases c5 : hi.to = 0
          · obtain ⟨ht, ha⟩ := hi
            dsimp only at c5
            subst c5
            refine (tmake_foundB (fun W W1 => StoreRep (Grow F W W1) W1 sb (M.findSt ⟨5, l, l, lo, ⟨ht, 0⟩⟩)) sb l M.n _ _ _ lo ht w hn h.pos hv h0 h1 c3 (fun hh => c4 ⟨rfl, hh⟩) hlo.1.1 hlo.1.2 h.lt hl1 hl2 hf).mono ?_
            rintro e w' ⟨rfl, W, W1, q1, q2, q3, q4⟩
            exact ⟨rfl, q3.after h.lt q1 q2 q4⟩
          · refine (tmake_foundA (fun W W1 => StoreRep (Grow F W W1) W1 sb (M.findSt ⟨5, l, l, lo, hi⟩)) sb l M.n _ _ _ lo hi w hn h.pos hv h0 h1 c3 c5 hlo.1.1 hlo.1.2 h.lt hl1 hl2 hf).mono ?_
            rintro e w' ⟨rfl, W, W1, q1, q2, q3, q4⟩
            exact ⟨rfl, q3.after h.lt q1 q2 q4⟩

end Go.Proofs.Ytimffidpbcflaaa
