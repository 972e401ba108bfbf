/-
  What View does, over the state (printed by wip/mk_vstore.py).
-/
import Derived.Test.YtoeoehbpahodnaaPTMakeA
namespace Go.Proofs.Ytoeoehbpahodnaa
set_option linter.unusedSimpArgs false
set_option linter.unusedVariables false
set_option maxHeartbeats 600000
open Go.RowKit

theorem leads_some {M : St} {f : Int} {e : Edge} {l : Int} (h : M.leads f e l = true) {r : Rec} (hl : look M.cs e.to = some r) : r.form = f ∧ l ≤ r.top ∧ e.tag ≤ r.top := by
  have h2 := (look_some hl).1
  unfold St.leads at h
  rw [hl, decide_eq_false (show ¬ e.to < 2 by omega)] at h
  simp at h
  exact ⟨h.2.1.1, h.2.1.2, h.2.2⟩

def vOut (f l : Int) (e : Edge) : Edge × Edge × Int :=
  if f = 1 ∨ f = 3 then (e, e, 0) else if f = 5 then (⟨l + 1, e.to⟩, ⟨0, 0⟩, 0) else (e, ⟨0, 0⟩, 0)

def viewAct (M : St) (f : Int) (e : Edge) (l : Int) : (Edge × Edge × Int) ⊕ Rec :=
  if l < 0 ∨ M.n ≤ l then .inl (⟨0, 0⟩, ⟨0, 0⟩, 3)
  else if M.leads f e l = false then .inl (⟨0, 0⟩, ⟨0, 0⟩, 1)
  else if f = 5 ∧ (e.to = 0 ∨ l < e.tag) then .inl (e, e, 0)
  else match look M.cs e.to with
    | none => .inl (vOut f l e)
    | some r => if l < r.top then .inl (vOut f l e) else if (f = 3 ∨ f = 4) ∧ r.bot ≠ r.top then .inr ⟨r.form, r.top + 1, r.bot, r.lo, r.hi⟩ else .inl (r.lo, r.hi, 0)

def vLo (M : St) : (Edge × Edge × Int) ⊕ Rec → Edge | .inl x => x.1 | .inr r => foundE M 0 r
def vHi (M : St) (f : Int) : (Edge × Edge × Int) ⊕ Rec → Edge | .inl x => x.2.1 | .inr r => if M.findErr r = 0 then (if f = 4 then foundE M 0 r else r.hi) else ⟨0, 0⟩
def vErr (M : St) : (Edge × Edge × Int) ⊕ Rec → Int | .inl x => x.2.2 | .inr r => M.findErr r
def vSt (M : St) : (Edge × Edge × Int) ⊕ Rec → St | .inl _ => M | .inr r => M.findSt r
theorem foundE_ok {M : St} {t : Int} {r : Rec} (h : M.findErr r = 0) : foundE M t r = ⟨t, M.findId r⟩ := if_pos h

theorem foundE_bad {M : St} {t : Int} {r : Rec} (h : ¬ M.findErr r = 0) : foundE M t r = ⟨0, 0⟩ := if_neg h

theorem chain_ok {M : St} {r : Rec} {f l : Int} (hr : r.ok) (h0 : 0 ≤ l) (h1 : l ≤ 16) (hf : 0 ≤ f ∧ f ≤ 255) : (⟨f, l + 1, r.bot, r.lo, r.hi⟩ : Rec).ok :=
  ⟨hf, ⟨by show 0 ≤ l + 1; omega, by show l + 1 ≤ 255; omega⟩, hr.bot, hr.lo, hr.hi⟩

theorem cbdd_found0 {F : Nat → Prop} {w : World} {sb : Nat} {M : St} (h : StoreRep F w sb M) (r : Rec) (hr : r.ok) :
    Calls Try.prog 110 #[.pointer (some ⟨sb, 0, none⟩), .agg #[.int .u8 r.form, .int .u8 r.top, .int .u8 r.bot, .int .u8 r.lo.tag, .int .u32 r.lo.to, .int .u8 r.hi.tag, .int .u32 r.hi.to]] w fun e w' => e = .returned (.tuple #[.agg #[.int .u8 (foundE M 0 r).tag, .int .u32 (foundE M 0 r).to], .int .u8 (M.findErr r)]) ∧ Upd F w w' ∧ StoreRep (Grow F w w') w' sb (M.findSt r) := by
  have hf := fun (W : World) (hW : Keeps w W) => store_find (h.keeps hW) r hr
  by_cases he : M.findErr r = 0
  · have e1 : foundE M 0 r = ⟨0, M.findId r⟩ := if_pos he
    rw [e1, he]
    rw [he] at hf
    refine (cfound_ok sb r (M.findId r) w h.pos h.lt (fun W W1 => StoreRep (Grow F W W1) W1 sb (M.findSt r)) hf).mono ?_
    rintro e w' ⟨rfl, W, W1, h1, h2, h3, h4⟩
    exact ⟨rfl, h3.after h.lt h1 h2 h4⟩
  · have e1 : foundE M 0 r = ⟨0, 0⟩ := if_neg he
    rw [e1]
    refine (cfound_bad sb r (M.findId r) (M.findErr r) he w h.pos h.lt (fun W W1 => StoreRep (Grow F W W1) W1 sb (M.findSt r)) hf).mono ?_
    rintro e w' ⟨rfl, W, W1, h1, h2, h3, h4⟩
    exact ⟨rfl, h3.after h.lt h1 h2 h4⟩

theorem czdd_found0 {F : Nat → Prop} {w : World} {sb : Nat} {M : St} (h : StoreRep F w sb M) (r : Rec) (hr : r.ok) :
    Calls Try.prog 111 #[.pointer (some ⟨sb, 0, none⟩), .agg #[.int .u8 r.form, .int .u8 r.top, .int .u8 r.bot, .int .u8 r.lo.tag, .int .u32 r.lo.to, .int .u8 r.hi.tag, .int .u32 r.hi.to]] w fun e w' => e = .returned (.tuple #[.agg #[.int .u8 (foundE M 0 r).tag, .int .u32 (foundE M 0 r).to], .int .u8 (M.findErr r)]) ∧ Upd F w w' ∧ StoreRep (Grow F w w') w' sb (M.findSt r) := by
  have hf := fun (W : World) (hW : Keeps w W) => store_find (h.keeps hW) r hr
  by_cases he : M.findErr r = 0
  · have e1 : foundE M 0 r = ⟨0, M.findId r⟩ := if_pos he
    rw [e1, he]
    rw [he] at hf
    refine (zfound_ok sb r (M.findId r) w h.pos h.lt (fun W W1 => StoreRep (Grow F W W1) W1 sb (M.findSt r)) hf).mono ?_
    rintro e w' ⟨rfl, W, W1, h1, h2, h3, h4⟩
    exact ⟨rfl, h3.after h.lt h1 h2 h4⟩
  · have e1 : foundE M 0 r = ⟨0, 0⟩ := if_neg he
    rw [e1]
    refine (zfound_bad sb r (M.findId r) (M.findErr r) he w h.pos h.lt (fun W W1 => StoreRep (Grow F W W1) W1 sb (M.findSt r)) hf).mono ?_
    rintro e w' ⟨rfl, W, W1, h1, h2, h3, h4⟩
    exact ⟨rfl, h3.after h.lt h1 h2 h4⟩

end Go.Proofs.Ytoeoehbpahodnaa

namespace Go.Proofs.Ytoeoehbpahodnaa
set_option linter.unusedSimpArgs false
set_option linter.unusedVariables false
set_option maxHeartbeats 600000
open Go.RowKit

def bRest (_ : St) (l : Int) (lo hi : Edge) : (Edge × Int) ⊕ Rec := if lo = hi then .inl (lo, 0) else .inr ⟨1, l, l, lo, hi⟩

def zRest (_ : St) (l : Int) (lo hi : Edge) : (Edge × Int) ⊕ Rec := if hi.to = 0 then .inl (lo, 0) else .inr ⟨2, l, l, lo, hi⟩

def cRest (M : St) (l : Int) (lo hi : Edge) : (Edge × Int) ⊕ Rec :=
  if lo = hi then .inl (lo, 0) else match look M.cs lo.to with
    | none => .inr ⟨3, l, l, lo, hi⟩
    | some r => if r.top = l + 1 then (if r.hi = hi then .inr ⟨3, l, r.bot, r.lo, hi⟩ else .inr ⟨3, l, l, lo, hi⟩) else .inr ⟨3, l, l, lo, hi⟩

def qRest (M : St) (l : Int) (lo hi : Edge) : (Edge × Int) ⊕ Rec :=
  if hi.to = 0 then .inl (lo, 0) else match look M.cs lo.to with
    | none => .inr ⟨4, l, l, lo, hi⟩
    | some r => if lo = hi then (if r.top = l + 1 then .inr ⟨4, l, r.bot, r.lo, r.hi⟩ else .inr ⟨4, l, l, lo, hi⟩) else .inr ⟨4, l, l, lo, hi⟩

def makeAct (M : St) (f l : Int) (lo hi : Edge) (rest : (Edge × Int) ⊕ Rec) : (Edge × Int) ⊕ Rec :=
  if l < 0 ∨ M.n ≤ l then .inl (⟨0, 0⟩, 3)
  else if M.leads f lo (l + 1) = false ∨ M.leads f hi (l + 1) = false then .inl (⟨0, 0⟩, 1) else rest

def actE0 (M : St) : (Edge × Int) ⊕ Rec → Edge | .inl x => x.1 | .inr r => foundE M 0 r

theorem rec_ok {f l b : Int} {lo hi : Edge} (hf : 0 ≤ f ∧ f ≤ 255) (h0 : 0 ≤ l) (h1 : l ≤ 16) (hb : 0 ≤ b ∧ b ≤ 255) (hlo : lo.ok) (hhi : hi.ok) : (⟨f, l, b, lo, hi⟩ : Rec).ok :=
  ⟨hf, ⟨h0, by show l ≤ 255; omega⟩, hb, hlo, hhi⟩

theorem bdd_found0 {F : Nat → Prop} {w : World} {sb : Nat} {M : St} (h : StoreRep F w sb M) (r : Rec) (hr : r.ok) :
    Calls Try.prog 108 #[.pointer (some ⟨sb, 0, none⟩), .agg #[.int .u8 r.form, .int .u8 r.top, .int .u8 r.bot, .int .u8 r.lo.tag, .int .u32 r.lo.to, .int .u8 r.hi.tag, .int .u32 r.hi.to]] w fun e w' => e = .returned (.tuple #[.agg #[.int .u8 (foundE M 0 r).tag, .int .u32 (foundE M 0 r).to], .int .u8 (M.findErr r)]) ∧ Upd F w w' ∧ StoreRep (Grow F w w') w' sb (M.findSt r) := by
  have hf := fun (W : World) (hW : Keeps w W) => store_find (h.keeps hW) r hr
  by_cases he : M.findErr r = 0
  · have e1 : foundE M 0 r = ⟨0, M.findId r⟩ := if_pos he
    rw [e1, he]
    rw [he] at hf
    refine (bfound_ok sb r (M.findId r) w h.pos h.lt (fun W W1 => StoreRep (Grow F W W1) W1 sb (M.findSt r)) hf).mono ?_
    rintro e w' ⟨rfl, W, W1, h1, h2, h3, h4⟩
    exact ⟨rfl, h3.after h.lt h1 h2 h4⟩
  · have e1 : foundE M 0 r = ⟨0, 0⟩ := if_neg he
    rw [e1]
    refine (bfound_bad sb r (M.findId r) (M.findErr r) he w h.pos h.lt (fun W W1 => StoreRep (Grow F W W1) W1 sb (M.findSt r)) hf).mono ?_
    rintro e w' ⟨rfl, W, W1, h1, h2, h3, h4⟩
    exact ⟨rfl, h3.after h.lt h1 h2 h4⟩

theorem zdd_found0 {F : Nat → Prop} {w : World} {sb : Nat} {M : St} (h : StoreRep F w sb M) (r : Rec) (hr : r.ok) :
    Calls Try.prog 109 #[.pointer (some ⟨sb, 0, none⟩), .agg #[.int .u8 r.form, .int .u8 r.top, .int .u8 r.bot, .int .u8 r.lo.tag, .int .u32 r.lo.to, .int .u8 r.hi.tag, .int .u32 r.hi.to]] w fun e w' => e = .returned (.tuple #[.agg #[.int .u8 (foundE M 0 r).tag, .int .u32 (foundE M 0 r).to], .int .u8 (M.findErr r)]) ∧ Upd F w w' ∧ StoreRep (Grow F w w') w' sb (M.findSt r) := by
  have hf := fun (W : World) (hW : Keeps w W) => store_find (h.keeps hW) r hr
  by_cases he : M.findErr r = 0
  · have e1 : foundE M 0 r = ⟨0, M.findId r⟩ := if_pos he
    rw [e1, he]
    rw [he] at hf
    refine (yfound_ok sb r (M.findId r) w h.pos h.lt (fun W W1 => StoreRep (Grow F W W1) W1 sb (M.findSt r)) hf).mono ?_
    rintro e w' ⟨rfl, W, W1, h1, h2, h3, h4⟩
    exact ⟨rfl, h3.after h.lt h1 h2 h4⟩
  · have e1 : foundE M 0 r = ⟨0, 0⟩ := if_neg he
    rw [e1]
    refine (yfound_bad sb r (M.findId r) (M.findErr r) he w h.pos h.lt (fun W W1 => StoreRep (Grow F W W1) W1 sb (M.findSt r)) hf).mono ?_
    rintro e w' ⟨rfl, W, W1, h1, h2, h3, h4⟩
    exact ⟨rfl, h3.after h.lt h1 h2 h4⟩

end Go.Proofs.Ytoeoehbpahodnaa
