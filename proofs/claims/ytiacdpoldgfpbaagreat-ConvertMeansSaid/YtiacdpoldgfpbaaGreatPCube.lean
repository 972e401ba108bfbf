/-
  Arguments that came in, opened; and read again behind a call below which nothing has turned.
-/
import Derived.Test.YtiacdpoldgfpbaaGreatPMSA
import Derived.ProofKit
import Derived.OpenShut
import Derived.ChangeOld
import Derived.Carry
import Derived.Lib.SmallJoins
import Derived.Deep.Slices
import Derived.Deep.Fields
namespace Go.Proofs.YtiacdpoldgfpbaaGreat
set_option linter.unusedSimpArgs false
set_option linter.unusedVariables false
set_option maxHeartbeats 600000
open Go.ChangeShapes Go.WideShapes Go.ChangeAt Go.RowKit Go.Joins Go.Deep

theorem own : ownKnob Tryz.prog.godebug = none := by kernel_rfl

theorem laidOut : laidOutB Tryz.prog = true := by kernel_rfl

theorem trodAll_below {H : Type} {enc : TypeId × Value → H} {P : Program} (hl : laidOutB P = true) {W W' : World} (hb : Below W.heap.size W W') : ∀ (ts : List TypeId) (vs : List Value) (ds : List (DataW H)) (ps : List MemPlace),
    (ts.all fun t => P.readableRec t && decide (t < P.types.size)) = true → DataW.TrodAll enc P W 0 (fun _ => true) true ts vs ds ps → DataW.TrodAll enc P W' 0 (fun b => decide (b < W.heap.size)) true ts vs ds ps
  | [], vs, ds, ps, _, h => by cases vs <;> cases ds <;> simp_all [DataW.TrodAll]
  | t :: ts, vs, ds, ps, ht, h => by
    obtain ⟨v, vs', d, ds', p, q, rfl, rfl, rfl, h0, h1⟩ := trodAll_cons h
    simp only [List.all_cons, Bool.and_eq_true, decide_eq_true_eq] at ht
    refine trodAll_cons_mk (Below.trod hl ht.1.1 ht.1.2 h0 hb ?_) (trodAll_below hl hb ts vs' ds' q ht.2 h1)
    obtain ⟨m, hm⟩ := h0
    exact DataW.trod_lt m _ _ _ hm

instance : Inhabited Rec := ⟨Rec.zero⟩

instance : Inhabited Edge := ⟨Edge.zero⟩

end Go.Proofs.YtiacdpoldgfpbaaGreat

namespace Go.Proofs.YtiacdpoldgfpbaaGreat
set_option linter.unusedSimpArgs false
set_option linter.unusedVariables false
set_option maxHeartbeats 600000
open Go.RowKit

theorem IsRecs.keeps {w W : World} {a : Option Addr} {len : Nat} {rs : List Rec} (h : IsRecs w a len rs) (hk : Keeps w W) : IsRecs W a len rs := by
  refine ⟨h.1, fun i r hr => ?_⟩
  obtain ⟨h1, b, off, h2, h3⟩ := h.2 i r hr
  exact ⟨h1, b, off, h2, fun j hj => by
    rw [List.getElem?_eq_getElem (show j < (recVals r).length from hj)]
    exact hk.cell ((h3 j hj).trans (List.getElem?_eq_getElem (show j < (recVals r).length from hj)))⟩

end Go.Proofs.YtiacdpoldgfpbaaGreat

namespace Go.Proofs.YtiacdpoldgfpbaaGreat
set_option linter.unusedSimpArgs false
set_option linter.unusedVariables false
set_option maxHeartbeats 600000
open Go.RowKit

def kAct (M : St) (f l : Int) (lo hi : Edge) : (Edge × Int) ⊕ Rec :=
  if f = 1 then makeAct M 1 l lo hi (bRest M l lo hi) else if f = 2 then makeAct M 2 l lo hi (zRest M l lo hi) else if f = 3 then makeAct M 3 l lo hi (cRest M l lo hi)
  else if f = 4 then makeAct M 4 l lo hi (qRest M l lo hi) else if f = 5 then tAct M l lo hi else .inl (⟨0, 0⟩, 4)

def kE (M : St) (f : Int) (a : (Edge × Int) ⊕ Rec) : Edge := if f = 5 then actE M a else actE0 M a

set_option maxRecDepth 100000 in
theorem kmake_b {F : Nat → Prop} (R : World → World → Prop) (sb : Nat) (l a b er : Int) (lo hi : Edge) (w : World) (hsb : sb < w.heap.size) (hlt : ∀ k, F k → k < w.heap.size)
    (hf : ∀ W, Keeps w W → Calls Tryz.prog 81 #[.pointer (some ⟨sb, 0, none⟩), .int .i64 l, .agg #[.int .u8 lo.tag, .int .u32 lo.to], .agg #[.int .u8 hi.tag, .int .u32 hi.to]] W fun e w' => e = .returned (.tuple #[.agg #[.int .u8 a, .int .u32 b], .int .u8 er]) ∧ Upd F W w' ∧ R W w') :
    Calls Tryz.prog 43 #[.pointer (some ⟨sb, 0, none⟩), .int .u8 1, .int .i64 l, .agg #[.int .u8 lo.tag, .int .u32 lo.to], .agg #[.int .u8 hi.tag, .int .u32 hi.to]] w fun e w' => e = .returned (.tuple #[.agg #[.int .u8 a, .int .u32 b], .int .u8 er]) ∧
      ∃ W W1, Keeps w W ∧ Upd F W W1 ∧ R W W1 ∧ Upd (fun k => w.heap.size ≤ k ∧ k < W.heap.size) W1 w' := by
  have HF := Lib.hid hf
  have nF : ∀ k, w.heap.size ≤ k → ¬ F k := fun k hk h => by have := hlt k h; omega
  have n2 := nF (w.heap.size + 2) (by omega)
  clear hf hlt nF
  go_enter Tryz.func43, Tryz.ntmps43
  go_wp2_with (go_at_call 81; refine (HF.out _ (by (exact kp))).mono ?_; rintro e w3 ⟨rfl, hu, hR⟩; have hs3 := hu.size; (try simp only [World.size_alloc, World.size_setCell, World.size_drew] at hs3); have v0 := hu.cell (a := ⟨w.heap.size + 2, 0, none⟩) n2 (v := .int .u8 0) (by simp [go_sem]); have v1 := hu.cell (a := ⟨w.heap.size + 2, 1, none⟩) n2 (v := .int .u32 0) (by simp [go_sem]); have vf := fun o : Nat => hu.frozen (a := ⟨w.heap.size + 2, o, none⟩) (by simp [go_sem]) n2 (by simp [go_sem]); have hv2 : w.heap.size + 2 < w3.heap.size := (by omega))
  all_goals refine bodyPost_ret (v := .tuple #[.agg #[.int .u8 a, .int .u32 b], .int .u8 er]) (by simp [results, Tryz.results43, go_sem, hv2, v0, v1]) rfl ⟨rfl, _, w3, by (exact kp), hu, hR, ?_⟩
  all_goals (try simp only [World.size_alloc, World.size_setCell, World.size_drew])
  all_goals (repeat (first | with_reducible exact Upd.refl _ _ | exact Upd.mono hu4 (fun k _ hk => ⟨hk.1, by (try simp only [World.size_alloc, World.size_setCell, World.size_drew]); have := hk.2; omega⟩) | refine Upd.setCell ?_ (Or.inl (by dsimp only; omega)) _ | refine Upd.setCell ?_ (Or.inr (by dsimp only; omega)) _ | with_reducible refine Upd.drewN ?_ _ | with_reducible refine Upd.drew ?_ | with_reducible refine Upd.alloc ?_ _))

set_option maxRecDepth 100000 in
theorem kmake_z {F : Nat → Prop} (R : World → World → Prop) (sb : Nat) (l a b er : Int) (lo hi : Edge) (w : World) (hsb : sb < w.heap.size) (hlt : ∀ k, F k → k < w.heap.size)
    (hf : ∀ W, Keeps w W → Calls Tryz.prog 82 #[.pointer (some ⟨sb, 0, none⟩), .int .i64 l, .agg #[.int .u8 lo.tag, .int .u32 lo.to], .agg #[.int .u8 hi.tag, .int .u32 hi.to]] W fun e w' => e = .returned (.tuple #[.agg #[.int .u8 a, .int .u32 b], .int .u8 er]) ∧ Upd F W w' ∧ R W w') :
    Calls Tryz.prog 43 #[.pointer (some ⟨sb, 0, none⟩), .int .u8 2, .int .i64 l, .agg #[.int .u8 lo.tag, .int .u32 lo.to], .agg #[.int .u8 hi.tag, .int .u32 hi.to]] w fun e w' => e = .returned (.tuple #[.agg #[.int .u8 a, .int .u32 b], .int .u8 er]) ∧
      ∃ W W1, Keeps w W ∧ Upd F W W1 ∧ R W W1 ∧ Upd (fun k => w.heap.size ≤ k ∧ k < W.heap.size) W1 w' := by
  have HF := Lib.hid hf
  have nF : ∀ k, w.heap.size ≤ k → ¬ F k := fun k hk h => by have := hlt k h; omega
  have n2 := nF (w.heap.size + 2) (by omega)
  clear hf hlt nF
  go_enter Tryz.func43, Tryz.ntmps43
  go_wp2_with (go_at_call 82; refine (HF.out _ (by (exact kp))).mono ?_; rintro e w3 ⟨rfl, hu, hR⟩; have hs3 := hu.size; (try simp only [World.size_alloc, World.size_setCell, World.size_drew] at hs3); have v0 := hu.cell (a := ⟨w.heap.size + 2, 0, none⟩) n2 (v := .int .u8 0) (by simp [go_sem]); have v1 := hu.cell (a := ⟨w.heap.size + 2, 1, none⟩) n2 (v := .int .u32 0) (by simp [go_sem]); have vf := fun o : Nat => hu.frozen (a := ⟨w.heap.size + 2, o, none⟩) (by simp [go_sem]) n2 (by simp [go_sem]); have hv2 : w.heap.size + 2 < w3.heap.size := (by omega))
  all_goals refine bodyPost_ret (v := .tuple #[.agg #[.int .u8 a, .int .u32 b], .int .u8 er]) (by simp [results, Tryz.results43, go_sem, hv2, v0, v1]) rfl ⟨rfl, _, w3, by (exact kp), hu, hR, ?_⟩
  all_goals (try simp only [World.size_alloc, World.size_setCell, World.size_drew])
  all_goals (repeat (first | with_reducible exact Upd.refl _ _ | exact Upd.mono hu4 (fun k _ hk => ⟨hk.1, by (try simp only [World.size_alloc, World.size_setCell, World.size_drew]); have := hk.2; omega⟩) | refine Upd.setCell ?_ (Or.inl (by dsimp only; omega)) _ | refine Upd.setCell ?_ (Or.inr (by dsimp only; omega)) _ | with_reducible refine Upd.drewN ?_ _ | with_reducible refine Upd.drew ?_ | with_reducible refine Upd.alloc ?_ _))

set_option maxRecDepth 100000 in
theorem kmake_c {F : Nat → Prop} (R : World → World → Prop) (sb : Nat) (l a b er : Int) (lo hi : Edge) (w : World) (hsb : sb < w.heap.size) (hlt : ∀ k, F k → k < w.heap.size)
    (hf : ∀ W, Keeps w W → Calls Tryz.prog 83 #[.pointer (some ⟨sb, 0, none⟩), .int .i64 l, .agg #[.int .u8 lo.tag, .int .u32 lo.to], .agg #[.int .u8 hi.tag, .int .u32 hi.to]] W fun e w' => e = .returned (.tuple #[.agg #[.int .u8 a, .int .u32 b], .int .u8 er]) ∧ Upd F W w' ∧ R W w') :
    Calls Tryz.prog 43 #[.pointer (some ⟨sb, 0, none⟩), .int .u8 3, .int .i64 l, .agg #[.int .u8 lo.tag, .int .u32 lo.to], .agg #[.int .u8 hi.tag, .int .u32 hi.to]] w fun e w' => e = .returned (.tuple #[.agg #[.int .u8 a, .int .u32 b], .int .u8 er]) ∧
      ∃ W W1, Keeps w W ∧ Upd F W W1 ∧ R W W1 ∧ Upd (fun k => w.heap.size ≤ k ∧ k < W.heap.size) W1 w' := by
  have HF := Lib.hid hf
  have nF : ∀ k, w.heap.size ≤ k → ¬ F k := fun k hk h => by have := hlt k h; omega
  have n2 := nF (w.heap.size + 2) (by omega)
  clear hf hlt nF
  go_enter Tryz.func43, Tryz.ntmps43
  go_wp2_with (go_at_call 83; refine (HF.out _ (by (exact kp))).mono ?_; rintro e w3 ⟨rfl, hu, hR⟩; have hs3 := hu.size; (try simp only [World.size_alloc, World.size_setCell, World.size_drew] at hs3); have v0 := hu.cell (a := ⟨w.heap.size + 2, 0, none⟩) n2 (v := .int .u8 0) (by simp [go_sem]); have v1 := hu.cell (a := ⟨w.heap.size + 2, 1, none⟩) n2 (v := .int .u32 0) (by simp [go_sem]); have vf := fun o : Nat => hu.frozen (a := ⟨w.heap.size + 2, o, none⟩) (by simp [go_sem]) n2 (by simp [go_sem]); have hv2 : w.heap.size + 2 < w3.heap.size := (by omega))
  all_goals refine bodyPost_ret (v := .tuple #[.agg #[.int .u8 a, .int .u32 b], .int .u8 er]) (by simp [results, Tryz.results43, go_sem, hv2, v0, v1]) rfl ⟨rfl, _, w3, by (exact kp), hu, hR, ?_⟩
  all_goals (try simp only [World.size_alloc, World.size_setCell, World.size_drew])
  all_goals (repeat (first | with_reducible exact Upd.refl _ _ | exact Upd.mono hu4 (fun k _ hk => ⟨hk.1, by (try simp only [World.size_alloc, World.size_setCell, World.size_drew]); have := hk.2; omega⟩) | refine Upd.setCell ?_ (Or.inl (by dsimp only; omega)) _ | refine Upd.setCell ?_ (Or.inr (by dsimp only; omega)) _ | with_reducible refine Upd.drewN ?_ _ | with_reducible refine Upd.drew ?_ | with_reducible refine Upd.alloc ?_ _))

set_option maxRecDepth 100000 in
theorem kmake_q {F : Nat → Prop} (R : World → World → Prop) (sb : Nat) (l a b er : Int) (lo hi : Edge) (w : World) (hsb : sb < w.heap.size) (hlt : ∀ k, F k → k < w.heap.size)
    (hf : ∀ W, Keeps w W → Calls Tryz.prog 84 #[.pointer (some ⟨sb, 0, none⟩), .int .i64 l, .agg #[.int .u8 lo.tag, .int .u32 lo.to], .agg #[.int .u8 hi.tag, .int .u32 hi.to]] W fun e w' => e = .returned (.tuple #[.agg #[.int .u8 a, .int .u32 b], .int .u8 er]) ∧ Upd F W w' ∧ R W w') :
    Calls Tryz.prog 43 #[.pointer (some ⟨sb, 0, none⟩), .int .u8 4, .int .i64 l, .agg #[.int .u8 lo.tag, .int .u32 lo.to], .agg #[.int .u8 hi.tag, .int .u32 hi.to]] w fun e w' => e = .returned (.tuple #[.agg #[.int .u8 a, .int .u32 b], .int .u8 er]) ∧
      ∃ W W1, Keeps w W ∧ Upd F W W1 ∧ R W W1 ∧ Upd (fun k => w.heap.size ≤ k ∧ k < W.heap.size) W1 w' := by
  have HF := Lib.hid hf
  have nF : ∀ k, w.heap.size ≤ k → ¬ F k := fun k hk h => by have := hlt k h; omega
  have n2 := nF (w.heap.size + 2) (by omega)
  clear hf hlt nF
  go_enter Tryz.func43, Tryz.ntmps43
  go_wp2_with (go_at_call 84; refine (HF.out _ (by (exact kp))).mono ?_; rintro e w3 ⟨rfl, hu, hR⟩; have hs3 := hu.size; (try simp only [World.size_alloc, World.size_setCell, World.size_drew] at hs3); have v0 := hu.cell (a := ⟨w.heap.size + 2, 0, none⟩) n2 (v := .int .u8 0) (by simp [go_sem]); have v1 := hu.cell (a := ⟨w.heap.size + 2, 1, none⟩) n2 (v := .int .u32 0) (by simp [go_sem]); have vf := fun o : Nat => hu.frozen (a := ⟨w.heap.size + 2, o, none⟩) (by simp [go_sem]) n2 (by simp [go_sem]); have hv2 : w.heap.size + 2 < w3.heap.size := (by omega))
  all_goals refine bodyPost_ret (v := .tuple #[.agg #[.int .u8 a, .int .u32 b], .int .u8 er]) (by simp [results, Tryz.results43, go_sem, hv2, v0, v1]) rfl ⟨rfl, _, w3, by (exact kp), hu, hR, ?_⟩
  all_goals (try simp only [World.size_alloc, World.size_setCell, World.size_drew])
  all_goals (repeat (first | with_reducible exact Upd.refl _ _ | exact Upd.mono hu4 (fun k _ hk => ⟨hk.1, by (try simp only [World.size_alloc, World.size_setCell, World.size_drew]); have := hk.2; omega⟩) | refine Upd.setCell ?_ (Or.inl (by dsimp only; omega)) _ | refine Upd.setCell ?_ (Or.inr (by dsimp only; omega)) _ | with_reducible refine Upd.drewN ?_ _ | with_reducible refine Upd.drew ?_ | with_reducible refine Upd.alloc ?_ _))

set_option maxRecDepth 100000 in
theorem kmake_t {F : Nat → Prop} (R : World → World → Prop) (sb : Nat) (l a b er : Int) (lo hi : Edge) (w : World) (hsb : sb < w.heap.size) (hlt : ∀ k, F k → k < w.heap.size)
    (hf : ∀ W, Keeps w W → Calls Tryz.prog 85 #[.pointer (some ⟨sb, 0, none⟩), .int .i64 l, .agg #[.int .u8 lo.tag, .int .u32 lo.to], .agg #[.int .u8 hi.tag, .int .u32 hi.to]] W fun e w' => e = .returned (.tuple #[.agg #[.int .u8 a, .int .u32 b], .int .u8 er]) ∧ Upd F W w' ∧ R W w') :
    Calls Tryz.prog 43 #[.pointer (some ⟨sb, 0, none⟩), .int .u8 5, .int .i64 l, .agg #[.int .u8 lo.tag, .int .u32 lo.to], .agg #[.int .u8 hi.tag, .int .u32 hi.to]] w fun e w' => e = .returned (.tuple #[.agg #[.int .u8 a, .int .u32 b], .int .u8 er]) ∧
      ∃ W W1, Keeps w W ∧ Upd F W W1 ∧ R W W1 ∧ Upd (fun k => w.heap.size ≤ k ∧ k < W.heap.size) W1 w' := by
  have HF := Lib.hid hf
  have nF : ∀ k, w.heap.size ≤ k → ¬ F k := fun k hk h => by have := hlt k h; omega
  have n2 := nF (w.heap.size + 2) (by omega)
  clear hf hlt nF
  go_enter Tryz.func43, Tryz.ntmps43
  go_wp2_with (go_at_call 85; refine (HF.out _ (by (exact kp))).mono ?_; rintro e w3 ⟨rfl, hu, hR⟩; have hs3 := hu.size; (try simp only [World.size_alloc, World.size_setCell, World.size_drew] at hs3); have v0 := hu.cell (a := ⟨w.heap.size + 2, 0, none⟩) n2 (v := .int .u8 0) (by simp [go_sem]); have v1 := hu.cell (a := ⟨w.heap.size + 2, 1, none⟩) n2 (v := .int .u32 0) (by simp [go_sem]); have vf := fun o : Nat => hu.frozen (a := ⟨w.heap.size + 2, o, none⟩) (by simp [go_sem]) n2 (by simp [go_sem]); have hv2 : w.heap.size + 2 < w3.heap.size := (by omega))
  all_goals refine bodyPost_ret (v := .tuple #[.agg #[.int .u8 a, .int .u32 b], .int .u8 er]) (by simp [results, Tryz.results43, go_sem, hv2, v0, v1]) rfl ⟨rfl, _, w3, by (exact kp), hu, hR, ?_⟩
  all_goals (try simp only [World.size_alloc, World.size_setCell, World.size_drew])
  all_goals (repeat (first | with_reducible exact Upd.refl _ _ | exact Upd.mono hu4 (fun k _ hk => ⟨hk.1, by (try simp only [World.size_alloc, World.size_setCell, World.size_drew]); have := hk.2; omega⟩) | refine Upd.setCell ?_ (Or.inl (by dsimp only; omega)) _ | refine Upd.setCell ?_ (Or.inr (by dsimp only; omega)) _ | with_reducible refine Upd.drewN ?_ _ | with_reducible refine Upd.drew ?_ | with_reducible refine Upd.alloc ?_ _))

set_option maxRecDepth 100000 in
theorem kmake_no (sb : Nat) (f l : Int) (lo hi : Edge) (w : World) (hsb : sb < w.heap.size) (h1 : f ≠ 1) (h2 : f ≠ 2) (h3 : f ≠ 3) (h4 : f ≠ 4) (h5 : f ≠ 5) :
    Calls Tryz.prog 43 #[.pointer (some ⟨sb, 0, none⟩), .int .u8 f, .int .i64 l, .agg #[.int .u8 lo.tag, .int .u32 lo.to], .agg #[.int .u8 hi.tag, .int .u32 hi.to]] w fun e w' => e = .returned (.tuple #[.agg #[.int .u8 0, .int .u32 0], .int .u8 4]) ∧ Keeps w w' := by
  have g1 : (f == 1) = false := by simp [h1]
  have g2 : (f == 2) = false := by simp [h2]
  have g3 : (f == 3) = false := by simp [h3]
  have g4 : (f == 4) = false := by simp [h4]
  have g5 : (f == 5) = false := by simp [h5]
  clear h1 h2 h3 h4 h5
  go_enter Tryz.func43, Tryz.ntmps43
  go_wp2
  all_goals refine bodyPost_ret (v := .tuple #[.agg #[.int .u8 0, .int .u32 0], .int .u8 4]) (by simp [results, Tryz.results43, go_sem]) rfl ⟨rfl, by (exact kp)⟩

theorem canon_make {F : Nat → Prop} {w : World} {sb : Nat} {M : St} (h : StoreRep F w sb M) (f l : Int) (lo hi : Edge) (hlo : lo.ok) (hhi : hi.ok) :
    Calls Tryz.prog 43 #[.pointer (some ⟨sb, 0, none⟩), .int .u8 f, .int .i64 l, .agg #[.int .u8 lo.tag, .int .u32 lo.to], .agg #[.int .u8 hi.tag, .int .u32 hi.to]] w fun r w' =>
      r = .returned (.tuple #[.agg #[.int .u8 (kE M f (kAct M f l lo hi)).tag, .int .u32 (kE M f (kAct M f l lo hi)).to], .int .u8 (actErr M (kAct M f l lo hi))]) ∧ Upd F w w' ∧ StoreRep (Grow F w w') w' sb (actSt M (kAct M f l lo hi)) := by
  by_cases f1 : f = 1
  · subst f1
    have e1 : kAct M 1 l lo hi = makeAct M 1 l lo hi (bRest M l lo hi) := rfl
    have e2 : kE M 1 (kAct M 1 l lo hi) = actE0 M (makeAct M 1 l lo hi (bRest M l lo hi)) := by rw [e1]; rfl
    rw [e2, e1]
    refine (kmake_b (fun W W1 => StoreRep (Grow F W W1) W1 sb (actSt M (makeAct M 1 l lo hi (bRest M l lo hi)))) sb l _ _ _ lo hi w h.pos h.lt (fun W hW => bdd_make (h.keeps hW) l lo hi hlo hhi)).mono ?_
    rintro e w' ⟨rfl, W, W1, q1, q2, q3, q4⟩
    exact ⟨rfl, q3.after h.lt q1 q2 q4⟩
  by_cases f2 : f = 2
  · subst f2
    have e1 : kAct M 2 l lo hi = makeAct M 2 l lo hi (zRest M l lo hi) := rfl
    have e2 : kE M 2 (kAct M 2 l lo hi) = actE0 M (makeAct M 2 l lo hi (zRest M l lo hi)) := by rw [e1]; rfl
    rw [e2, e1]
    refine (kmake_z (fun W W1 => StoreRep (Grow F W W1) W1 sb (actSt M (makeAct M 2 l lo hi (zRest M l lo hi)))) sb l _ _ _ lo hi w h.pos h.lt (fun W hW => zdd_make (h.keeps hW) l lo hi hlo hhi)).mono ?_
    rintro e w' ⟨rfl, W, W1, q1, q2, q3, q4⟩
    exact ⟨rfl, q3.after h.lt q1 q2 q4⟩
  by_cases f3 : f = 3
  · subst f3
    have e1 : kAct M 3 l lo hi = makeAct M 3 l lo hi (cRest M l lo hi) := rfl
    have e2 : kE M 3 (kAct M 3 l lo hi) = actE0 M (makeAct M 3 l lo hi (cRest M l lo hi)) := by rw [e1]; rfl
    rw [e2, e1]
    refine (kmake_c (fun W W1 => StoreRep (Grow F W W1) W1 sb (actSt M (makeAct M 3 l lo hi (cRest M l lo hi)))) sb l _ _ _ lo hi w h.pos h.lt (fun W hW => cbdd_make (h.keeps hW) l lo hi hlo hhi)).mono ?_
    rintro e w' ⟨rfl, W, W1, q1, q2, q3, q4⟩
    exact ⟨rfl, q3.after h.lt q1 q2 q4⟩
  by_cases f4 : f = 4
  · subst f4
    have e1 : kAct M 4 l lo hi = makeAct M 4 l lo hi (qRest M l lo hi) := rfl
    have e2 : kE M 4 (kAct M 4 l lo hi) = actE0 M (makeAct M 4 l lo hi (qRest M l lo hi)) := by rw [e1]; rfl
    rw [e2, e1]
    refine (kmake_q (fun W W1 => StoreRep (Grow F W W1) W1 sb (actSt M (makeAct M 4 l lo hi (qRest M l lo hi)))) sb l _ _ _ lo hi w h.pos h.lt (fun W hW => czdd_make (h.keeps hW) l lo hi hlo hhi)).mono ?_
    rintro e w' ⟨rfl, W, W1, q1, q2, q3, q4⟩
    exact ⟨rfl, q3.after h.lt q1 q2 q4⟩
  by_cases f5 : f = 5
  · subst f5
    have e1 : kAct M 5 l lo hi = tAct M l lo hi := rfl
    have e2 : kE M 5 (kAct M 5 l lo hi) = actE M (tAct M l lo hi) := by rw [e1]; rfl
    rw [e2, e1]
    refine (kmake_t (fun W W1 => StoreRep (Grow F W W1) W1 sb (actSt M (tAct M l lo hi))) sb l _ _ _ lo hi w h.pos h.lt (fun W hW => tbdd_make (h.keeps hW) l lo hi hlo hhi)).mono ?_
    rintro e w' ⟨rfl, W, W1, q1, q2, q3, q4⟩
    exact ⟨rfl, q3.after h.lt q1 q2 q4⟩
  have e1 : kAct M f l lo hi = .inl (⟨0, 0⟩, 4) := by unfold kAct; rw [if_neg f1, if_neg f2, if_neg f3, if_neg f4, if_neg f5]
  have e2 : kE M f (kAct M f l lo hi) = ⟨0, 0⟩ := by rw [e1]; unfold kE; split <;> rfl
  rw [e2, e1]
  exact (kmake_no sb f l lo hi w h.pos f1 f2 f3 f4 f5).mono fun r w' hr => ⟨hr.1, h.stay hr.2⟩

end Go.Proofs.YtiacdpoldgfpbaaGreat

namespace Go.Proofs.YtiacdpoldgfpbaaGreat
set_option linter.unusedSimpArgs false
set_option linter.unusedVariables false
set_option maxHeartbeats 600000
open Go.RowKit

theorem StoreRep.fewK {F : Nat → Prop} {w : World} {sb : Nat} {M : St} (h : StoreRep F w sb M) : M.cs.length ≤ 1048576 := by
  obtain ⟨⟨ab, ib, ts, Fa, Fi, h1, h2, -⟩, -⟩ := h
  exact h2.few

theorem StoreRep.findId {F : Nat → Prop} {w : World} {sb : Nat} {M : St} (h : StoreRep F w sb M) (r : Rec) : 0 ≤ M.findId r ∧ M.findId r ≤ 1048578 := by
  have hf := h.fewK
  unfold St.findId
  split
  · rename_i id hi
    have hl := look_some (idOf_look hi)
    omega
  · split
    · omega
    · split
      · omega
      · have := putId_range h.wf.gone
        omega

theorem zero_ok : (⟨0, 0⟩ : Edge).ok := ⟨by decide, by decide⟩

def oneE (f n : Int) : Edge := if f = 5 then ⟨n, 1⟩ else ⟨0, 1⟩

set_option maxRecDepth 100000 in
theorem one_calls (f n : Int) (w : World) (hf : isFormB f = true) (hn0 : 0 ≤ n) (hn : n ≤ 16) : Calls Tryz.prog 42 #[.int .u8 f, .int .i64 n] w fun e w' => e = .returned (.agg #[.int .u8 (oneE f n).tag, .int .u32 (oneE f n).to]) ∧ Keeps w w' := by
  have h2 : mayB n = true := by simp [mayB, hn0, hn]
  by_cases h5 : f = 5
  · subst h5
    go_enter Tryz.func42, Tryz.ntmps42
    go_wp2_with (first | (go_at_call 40; refine (isForm_calls _ _).mono ?_; rintro e w' ⟨rfl, rfl⟩) | (go_at_call 80; refine (may_calls _ _).mono ?_; rintro e w' ⟨rfl, rfl⟩) | fail)
    all_goals refine bodyPost_ret (v := .agg #[.int .u8 n, .int .u32 1]) (by simp [results, Tryz.results42, go_sem]) rfl ⟨rfl, by (exact kp)⟩
  · have h6 : (f == 5) = false := by simp [h5]
    have e : oneE f n = ⟨0, 1⟩ := if_neg h5
    rw [e]
    go_enter Tryz.func42, Tryz.ntmps42
    go_wp2_with (first | (go_at_call 40; refine (isForm_calls _ _).mono ?_; rintro e w' ⟨rfl, rfl⟩) | (go_at_call 80; refine (may_calls _ _).mono ?_; rintro e w' ⟨rfl, rfl⟩) | fail)
    all_goals refine bodyPost_ret (v := .agg #[.int .u8 0, .int .u32 1]) (by simp [results, Tryz.results42, go_sem]) rfl ⟨rfl, by (exact kp)⟩

structure CubeInv (F : Nat → Prop) (w wr : World) (sb eb : Nat) (M : St) (v : Edge) (G : Nat → Prop) : Prop where
  upd : Upd F w wr
  rep : StoreRep G wr sb M
  sub : ∀ j, G j → F j ∨ (w.heap.size ≤ j ∧ j ≠ w.heap.size ∧ j ≠ eb)
  e0 : wr.cell? ⟨eb, 0, none⟩ = some (.int .u8 v.tag)
  e1 : wr.cell? ⟨eb, 1, none⟩ = some (.int .u32 v.to)
  ef : ∀ o, wr.frozen? ⟨eb, o, none⟩ = false
  z0 : wr.cell? ⟨w.heap.size, 0, none⟩ = some (.int .u8 0)
  z1 : wr.cell? ⟨w.heap.size, 1, none⟩ = some (.int .u32 0)
  zf : ∀ o, wr.frozen? ⟨w.heap.size, o, none⟩ = false
  se : w.heap.size < eb
  sz : eb < wr.heap.size

theorem CubeInv.call {F G : Nat → Prop} {w wr W w2 : World} {sb eb : Nat} {M M2 : St} {v : Edge} (h : CubeInv F w wr sb eb M v G) (hlt : ∀ k, F k → k < w.heap.size) (hk : Keeps wr W) (hu : Upd G W w2) (hS : StoreRep (Grow G W w2) w2 sb M2) :
    CubeInv F w w2 sb eb M2 v (Grow G W w2) := by
  have hse := h.se
  have hsz := h.sz
  have s1 := hk.size
  have s2 := hu.size
  have nG : ∀ j, j = w.heap.size ∨ j = eb → ¬ G j := by
    intro j hj hg
    rcases h.sub j hg with h1 | h1
    · have := hlt j h1
      omega
    · omega
  have hub : Upd G wr w2 := (hk.upd G).trans' hu
  have hU : Upd F w w2 := by
    refine ⟨hub.os.trans h.upd.os, hub.tape.trans h.upd.tape, hub.output.trans h.upd.output, Nat.le_trans h.upd.size hub.size, fun k hk' hf => ?_⟩
    have : ¬ G k := fun hg => by
      rcases h.sub k hg with h1 | h1
      · exact hf h1
      · omega
    rw [hub.block k (Nat.lt_of_lt_of_le hk' h.upd.size) this, h.upd.block k hk' hf]
  refine ⟨hU, hS, ?_, hub.cell (nG eb (.inr rfl)) h.e0, hub.cell (nG eb (.inr rfl)) h.e1, fun o => hub.frozen (a := ⟨eb, o, none⟩) hsz (nG eb (.inr rfl)) (h.ef o), hub.cell (nG _ (.inl rfl)) h.z0, hub.cell (nG _ (.inl rfl)) h.z1,
    fun o => hub.frozen (a := ⟨w.heap.size, o, none⟩) (by show w.heap.size < wr.heap.size; omega) (nG _ (.inl rfl)) (h.zf o), hse, by omega⟩
  intro j hj
  rcases hj with hj | hj
  · exact h.sub j hj
  · right
    omega

theorem CubeInv.put {F G : Nat → Prop} {w wr : World} {sb eb : Nat} {M : St} {v v2 : Edge} (h : CubeInv F w wr sb eb M v G) (hlt : ∀ k, F k → k < w.heap.size) (o : Obj) :
    CubeInv F w (((wr.setCell ⟨eb, 0, none⟩ (.int .u8 v2.tag)).setCell ⟨eb, 1, none⟩ (.int .u32 v2.to)).alloc o) sb eb M v2 G := by
  have hse := h.se
  have hsz := h.sz
  have n1 : ¬ eb = wr.heap.size := by omega
  have n2 : ¬ w.heap.size = wr.heap.size := by omega
  have n3 : ¬ w.heap.size = eb := by omega
  have n4 : w.heap.size < wr.heap.size := by omega
  have c0 := h.e0
  have c1 := h.e1
  have d0 := h.z0
  have d1 := h.z1
  refine ⟨?_, ?_, h.sub, ?_, ?_, ?_, ?_, ?_, ?_, hse, ?_⟩
  · exact ((h.upd.setCell (Or.inr (by show w.heap.size ≤ eb; omega)) _).setCell (Or.inr (by show w.heap.size ≤ eb; omega)) _).alloc o
  · refine h.rep.keep (G := fun k => k = eb) ((((Upd.refl (fun k => k = eb) wr).setCell (p := ⟨eb, 0, none⟩) (Or.inl rfl) _).setCell (p := ⟨eb, 1, none⟩) (Or.inl rfl) _).alloc o) ?_
    rintro k hk' rfl
    rcases h.sub _ hk' with h1 | h1
    · have := hlt _ h1
      omega
    · omega
  · simp [go_sem, c0, c1, hsz, n1]
  · simp [go_sem, c0, c1, hsz, n1]
  · intro q
    rw [World.frozen?_alloc_old _ _ _ (by simp only [World.size_setCell]; show eb ≠ wr.heap.size; omega), World.frozen?_setCell, World.frozen?_setCell]
    exact h.ef q
  · simp [go_sem, d0, n3, n4, n2]
  · simp [go_sem, d1, n3, n4, n2]
  · intro q
    rw [World.frozen?_alloc_old _ _ _ (by simp only [World.size_setCell]; show w.heap.size ≠ wr.heap.size; omega), World.frozen?_setCell, World.frozen?_setCell]
    exact h.zf q
  · simp only [World.size_setCell, World.size_alloc]
    omega

end Go.Proofs.YtiacdpoldgfpbaaGreat
