/-
  The walk of law14.halves, form 3 (printed by wip/mk_halves.py).
-/
import Derived.Test.YtnkehgohamjpaaaPHPlainA
import Derived.Test.YtnkehgohamjpaaaPMSC
import Derived.Test.YtnkehgohamjpaaaPRightC
import Derived.Test.YtnkehgohamjpaaaPVSC
import Derived.Test.YtnkehgohamjpaaaPViewA
namespace Go.Proofs.Ytnkehgohamjpaaa
set_option linter.unusedSimpArgs false
set_option linter.unusedVariables false
set_option maxHeartbeats 600000
open Go.RowKit

set_option maxRecDepth 100000 in
theorem chalves_zero {F : Nat → Prop} {w : World} {sb B : Nat} {M : St} {bs : List Bool} (h : StoreRep F w sb M) (hB : BoolsAt w B bs) (off cap : Nat) (l : Int) (v : Edge) (hl : l = M.n) (hm : IsMade 3 M bs 0 off l v) :
    Calls Try.prog 43 #[.pointer (some ⟨sb, 0, none⟩), .agg #[.int .u8 v.tag, .int .u32 v.to], .slice (some ⟨B, off, none⟩) 1 cap, .int .i64 l] w fun r w' => r = .returned (.bool true) ∧ Stood F w w' sb M := by
  have n0 := h.wf.n0
  have n16 := h.wf.n16
  obtain ⟨b, hb, hv⟩ := hm
  have cB := hB.cell hb
  have hlt := lt_of_cell cB
  dsimp only at hlt
  have HEND := Lib.hid (fun (W : World) => end14_calls b l W)
  have l0 : 0 ≤ l := by omega
  have l16 : l ≤ 16 := by omega
  have HS := Lib.hid h
  clear h hB hl n0 n16 hb
  rw [← hv] at HEND
  have hq := eql_same v v rfl
  clear hv
  go_enter Try.func43, Try.ntmps43
  go_wp2_with fail
  have k0 := KWorld.cell (W0 := w.alloc (.cells #[.int .u8 v.tag, .int .u32 v.to] 32)) (a := ⟨w.heap.size, 0, none⟩) (v := .int .u8 v.tag) (by simp)
  have k1 := KWorld.cell (W0 := w.alloc (.cells #[.int .u8 v.tag, .int .u32 v.to] 32)) (a := ⟨w.heap.size, 1, none⟩) (v := .int .u32 v.to) (by simp)
  have kB := KWorld.cell (W0 := w.alloc (.cells #[.int .u8 v.tag, .int .u32 v.to] 32)) (a := ⟨B, off, none⟩) (v := .bool b) (by simp [go_sem, hlt, cB])
  refine wp_region_keeps (w.alloc (.cells #[.int .u8 v.tag, .int .u32 v.to] 32)) (by kernel_rfl) (by kernel_rfl) (Keeps.refl _) ?_
  (repeat (go_big_quiet_step ((go_at_call 79; with_reducible refine Calls.keepsK (HEND.out _)))))
  refine wpQuiet_nil ?_
  rintro wq ⟨⟨_, hkq⟩, rfl⟩
  try dsimp only
  go_wp2_with fail
  go_ret
  exact ⟨rfl, Stood.after ((Keeps.refl w).alloc _) ((Stood.refl (HS.out.keeps ((Keeps.refl w).alloc _))).keeps hkq)⟩

set_option maxRecDepth 100000 in
set_option maxHeartbeats 2000000 in
theorem chalves_step {F : Nat → Prop} {w : World} {sb B : Nat} {M : St} {bs : List Bool} (k p : Nat) (hp1 : 1 ≤ p) (hp2 : p ≤ 1024) (h : StoreRep F w sb M) (hB : BoolsAt w B bs) (hFB : ¬ F B) (off cap : Nat) (l : Int) (v lo hi : Edge) (hl0 : 0 ≤ l) (hcap : 2 * p ≤ cap) (hcap2 : cap ≤ 4096) (ho : off + 2 * p ≤ bs.length) (hl : l + (k + 1 : Nat) = M.n) (hv : v.ok)
    (hmlo : IsMade 3 M bs k off (l + 1) lo) (hmhi : IsMade 3 M bs k (off + p) (l + 1) hi) (hbo : Both2 3 M l lo hi v)
    (ih : ∀ (off cap : Nat) (l : Int) (v : Edge) (F : Nat → Prop) (W : World), StoreRep F W sb M → BoolsAt W B bs → ¬ F B → 0 ≤ l → p ≤ cap → cap ≤ 4096 → off + p ≤ bs.length → l + (k : Nat) = M.n → v.ok → IsMade 3 M bs k off l v →
      Calls Try.prog 43 #[.pointer (some ⟨sb, 0, none⟩), .agg #[.int .u8 v.tag, .int .u32 v.to], .slice (some ⟨B, off, none⟩) p cap, .int .i64 l] W fun r w' => r = .returned (.bool true) ∧ Stood F W w' sb M) :
    Calls Try.prog 43 #[.pointer (some ⟨sb, 0, none⟩), .agg #[.int .u8 v.tag, .int .u32 v.to], .slice (some ⟨B, off, none⟩) (2 * p) cap, .int .i64 l] w fun r w' => r = .returned (.bool true) ∧ Stood F w w' sb M := by
  have n16 := h.wf.n16
  have hlt := hB.lt
  have hwf := h.wf
  have l16 : l ≤ 15 := by omega
  have hlM : l < M.n := by push_cast at hl; omega
  have nw : ¬ F w.heap.size := fun hf => by have := h.lt _ hf; omega
  obtain ⟨v1, v2, v3, v4⟩ := hbo.view hwf
  obtain ⟨g1, g2, g3⟩ := hbo.make hwf
  have hfits := view_fit hwf h.few (fun id r hl => h.fit hl) (f := 3) hv hl0 hlM
  rw [v2, v3] at hfits
  obtain ⟨hlok, hhok⟩ := hfits
  have HVW : Hid (∀ (F' : Nat → Prop) (W : World), StoreRep F' W sb M → Calls Try.prog 46 #[.pointer (some ⟨sb, 0, none⟩), .agg #[.int .u8 v.tag, .int .u32 v.to], .int .i64 l] W fun r w' => r = .returned (.tuple #[.agg #[.int .u8 lo.tag, .int .u32 lo.to], .agg #[.int .u8 hi.tag, .int .u32 hi.to], .int .u8 0]) ∧ Stood F' W w' sb M) :=
    Lib.hid (fun F' W hW => by
      have hc := cbdd_view hW v l hv
      rw [v1, v2, v3, v4] at hc
      exact hc.mono fun r w' hr => ⟨hr.1, Stood.of hr.2.1 hr.2.2⟩)
  have HMK : Hid (∀ (F' : Nat → Prop) (W : World), StoreRep F' W sb M → Calls Try.prog 47 #[.pointer (some ⟨sb, 0, none⟩), .int .i64 l, .agg #[.int .u8 lo.tag, .int .u32 lo.to], .agg #[.int .u8 hi.tag, .int .u32 hi.to]] W fun r w' => r = .returned (.tuple #[.agg #[.int .u8 v.tag, .int .u32 v.to], .int .u8 0]) ∧ Stood F' W w' sb M) :=
    Lib.hid (fun F' W hW => by
      have hc := cbdd_make hW l lo hi hlok hhok
      refine hc.mono fun r w' hr => ⟨?_, ?_⟩
      · rw [hr.1]
        have a1 := congrArg Edge.tag g2
        have a2 := congrArg Edge.to g2
        congr 2
        simp only [Array.mk.injEq, List.cons.injEq, Value.int.injEq, Value.agg.injEq, true_and, and_true]
        exact ⟨⟨a1, a2⟩, g1⟩
      · have hS := hr.2.2
        have hS2 : StoreRep (Grow F' W w') w' sb (actSt M (mkA 3 M l lo hi)) := hS
        rw [g3] at hS2
        exact Stood.of hr.2.1 hS2)
  have HRL : Hid (∀ (F' : Nat → Prop) (W : World), StoreRep F' W sb M → Calls Try.prog 44 #[.pointer (some ⟨sb, 0, none⟩), .agg #[.int .u8 lo.tag, .int .u32 lo.to], .int .i64 (l + 1)] W fun r w' => r = .returned (.bool true) ∧ Keeps W w') :=
    Lib.hid (fun F' W hW => by have hc := cbdd_right hW lo (l + 1) hlok; rw [hbo.lo] at hc; exact hc)
  have HRH : Hid (∀ (F' : Nat → Prop) (W : World), StoreRep F' W sb M → Calls Try.prog 44 #[.pointer (some ⟨sb, 0, none⟩), .agg #[.int .u8 hi.tag, .int .u32 hi.to], .int .i64 (l + 1)] W fun r w' => r = .returned (.bool true) ∧ Keeps W w') :=
    Lib.hid (fun F' W hW => by have hc := cbdd_right hW hi (l + 1) hhok; rw [hbo.hi] at hc; exact hc)
  have hlk : l + 1 + (k : Nat) = M.n := by push_cast at hl ⊢; omega
  have HLO := Lib.hid (fun (F' : Nat → Prop) (W : World) (hW : StoreRep F' W sb M) (hWB : BoolsAt W B bs) (hFW : ¬ F' B) => ih off cap (l + 1) lo F' W hW hWB hFW (by omega) (by omega) hcap2 (by omega) hlk hlok hmlo)
  have hh := fun (F' : Nat → Prop) (W : World) (hW : StoreRep F' W sb M) (hWB : BoolsAt W B bs) (hFW : ¬ F' B) => ih (off + p) (cap - p) (l + 1) hi F' W hW hWB hFW (by omega) (by omega) (by omega) (by omega) hlk hhok hmhi
  rw [show (#[.pointer (some ⟨sb, 0, none⟩), .agg #[.int .u8 hi.tag, .int .u32 hi.to], .slice (some ⟨B, off + p, none⟩) p (cap - p), .int .i64 (l + 1)] : Array Value) = #[.pointer (some ⟨sb, 0, none⟩), .agg #[.int .u8 hi.tag, .int .u32 hi.to], .slice (some ⟨B, off + p, none⟩) (2 * p - p) (cap - p), .int .i64 (l + 1)] by rw [show 2 * p - p = p by omega]] at hh
  have HHI := Lib.hid hh
  have hq := eql_same v v rfl
  have HS := Lib.hid h
  have HB := Lib.hid hB
  have q1 : (2 * (p : Int)) / 2 = (p : Int) := by omega
  clear h hB ih hl hlk hwf hlM hbo hmlo hmhi v1 v2 v3 v4 g1 g2 g3 hlok hhok hh hv n16
  go_enter Try.func43, Try.ntmps43
  go_wp2_with fail
  refine (HVW.out F _ (HS.out.keeps (by (repeat (first | with_reducible exact Keeps.refl _ | with_reducible assumption | with_reducible refine Keeps.alloc ?_ _ | with_reducible refine Keeps.drewN ?_ _ | with_reducible refine Keeps.drew ?_ | refine Keeps.setCell ?_ (by dsimp only; omega) _ | with_reducible refine Keeps.trans ?_ (by assumption)))))).mono ?_
  rintro r w1 ⟨rfl, hst1⟩
  have y0 := hst1.cell nw (o := 0) (v := .int .u8 v.tag) (by simp)
  have y1 := hst1.cell nw (o := 1) (v := .int .u32 v.to) (by simp)
  have s1 := hst1.upd.size
  simp only [World.size_alloc] at s1
  obtain ⟨⟨F1, r1, sub1⟩, u1⟩ := hst1
  simp only [World.size_alloc] at sub1
  have u1w : Upd F w w1 := (Keeps.upd ((Keeps.refl w).alloc _) F).trans' u1
  have nF1w : ¬ F1 w.heap.size := fun hf => by rcases sub1 _ hf with q | q; exact nw q; omega
  have nF1a : ¬ F1 w1.heap.size := fun hf => by have := r1.lt _ hf; omega
  have nF1b : ¬ F1 (w1.heap.size + 1) := fun hf => by have := r1.lt _ hf; omega
  have nF1B : ¬ F1 B := fun hf => by rcases sub1 B hf with q | q; exact hFB q; omega
  have HR1 := Lib.hid r1
  have SUB1 := Lib.hid sub1
  have HU1 := Lib.hid u1w
  have hlw1 : w.heap.size < w1.heap.size := by omega
  clear r1 sub1 u1 u1w
  go_wp2_with fail
  refine (HRL.out F1 _ (HR1.out.keeps (by (repeat (first | with_reducible exact Keeps.refl _ | with_reducible assumption | with_reducible refine Keeps.alloc ?_ _ | with_reducible refine Keeps.drewN ?_ _ | with_reducible refine Keeps.drew ?_ | refine Keeps.setCell ?_ (by dsimp only; omega) _ | with_reducible refine Keeps.trans ?_ (by assumption)))))).mono ?_
  rintro r w2 ⟨rfl, hk2⟩
  have y0 := hk2.cell (a := ⟨w.heap.size, 0, none⟩) (v := .int .u8 v.tag) (by simp [go_sem, hlw1, y0])
  have y1 := hk2.cell (a := ⟨w.heap.size, 1, none⟩) (v := .int .u32 v.to) (by simp [go_sem, hlw1, y1])
  have a0 := hk2.cell (a := ⟨w1.heap.size, 0, none⟩) (v := .int .u8 lo.tag) (by simp [go_sem])
  have a1 := hk2.cell (a := ⟨w1.heap.size, 1, none⟩) (v := .int .u32 lo.to) (by simp [go_sem])
  have b0 := hk2.cell (a := ⟨w1.heap.size + 1, 0, none⟩) (v := .int .u8 hi.tag) (by simp [go_sem])
  have b1 := hk2.cell (a := ⟨w1.heap.size + 1, 1, none⟩) (v := .int .u32 hi.to) (by simp [go_sem])
  have hk12 : Keeps w1 w2 := by (repeat (first | with_reducible exact Keeps.refl _ | with_reducible assumption | with_reducible refine Keeps.alloc ?_ _ | with_reducible refine Keeps.drewN ?_ _ | with_reducible refine Keeps.drew ?_ | refine Keeps.setCell ?_ (by dsimp only; omega) _ | with_reducible refine Keeps.trans ?_ (by assumption)))
  have s2 := hk2.size
  simp only [World.size_alloc] at s2
  go_wp2_with fail
  refine (HRH.out F1 _ (HR1.out.keeps (by (repeat (first | with_reducible exact Keeps.refl _ | with_reducible assumption | with_reducible refine Keeps.alloc ?_ _ | with_reducible refine Keeps.drewN ?_ _ | with_reducible refine Keeps.drew ?_ | refine Keeps.setCell ?_ (by dsimp only; omega) _ | with_reducible refine Keeps.trans ?_ (by assumption)))))).mono ?_
  rintro r w3 ⟨rfl, hk3⟩
  have y0 := hk3.cell y0
  have y1 := hk3.cell y1
  have a0 := hk3.cell a0
  have a1 := hk3.cell a1
  have b0 := hk3.cell b0
  have b1 := hk3.cell b1
  have hk13 : Keeps w1 w3 := hk12.trans hk3
  have s3 := hk3.size
  go_wp2_with fail
  refine (HMK.out F1 _ (HR1.out.keeps (by (repeat (first | with_reducible exact Keeps.refl _ | with_reducible assumption | with_reducible refine Keeps.alloc ?_ _ | with_reducible refine Keeps.drewN ?_ _ | with_reducible refine Keeps.drew ?_ | refine Keeps.setCell ?_ (by dsimp only; omega) _ | with_reducible refine Keeps.trans ?_ (by assumption)))))).mono ?_
  rintro r w4 ⟨rfl, hst4⟩
  have y0 := hst4.cell nF1w y0
  have y1 := hst4.cell nF1w y1
  have a0 := hst4.cell nF1a a0
  have a1 := hst4.cell nF1a a1
  have b0 := hst4.cell nF1b b0
  have b1 := hst4.cell nF1b b1
  have s4 := hst4.upd.size
  have hst14 : Stood F w w4 sb M := Stood.step (fun j hj => by rcases SUB1.out j hj with q | q; exact .inl q; right; omega) HU1.out hk13 hst4
  obtain ⟨⟨F4, r4, sub4⟩, u4⟩ := hst4
  have lF4 := r4.lt
  have nF4w : ¬ F4 w.heap.size := fun hf => by rcases sub4 _ hf with q | q; exact nF1w q; omega
  have nF4a : ¬ F4 w1.heap.size := fun hf => by rcases sub4 _ hf with q | q; exact nF1a q; omega
  have nF4b : ¬ F4 (w1.heap.size + 1) := fun hf => by rcases sub4 _ hf with q | q; exact nF1b q; omega
  have nF4c : ¬ F4 w4.heap.size := fun hf => by have := lF4 _ hf; omega
  have nF4B : ¬ F4 B := fun hf => by rcases sub4 B hf with q | q; exact nF1B q; omega
  have hsubF : ∀ j, F4 j → F j ∨ w.heap.size ≤ j := fun j hj => by
    rcases sub4 j hj with q | q
    · rcases SUB1.out j q with q | q
      · exact .inl q
      · right; omega
    · right; omega
  have HSF := Lib.hid hsubF
  have HR4 := Lib.hid r4
  have HU4 := Lib.hid hst14.upd
  have hlw4 : w.heap.size < w4.heap.size := by omega
  have hla4 : w1.heap.size < w4.heap.size := by omega
  have hlb4 : w1.heap.size + 1 < w4.heap.size := by omega
  have HB4 := Lib.hid (HB.out.keep hst14.upd hFB)
  clear hst14 sub4 u4 r4 hsubF lF4
  go_wp2_with fail
  have hr5 : StoreRep F4 (w4.alloc (.cells #[.int .u8 v.tag, .int .u32 v.to] 32)) sb M := HR4.out.keeps ((Keeps.refl _).alloc _)
  have ky0 := HWorld.cell hr5 nF4w (o := 0) (v := .int .u8 v.tag) (by simp [go_sem, hlw4, y0])
  have ky1 := HWorld.cell hr5 nF4w (o := 1) (v := .int .u32 v.to) (by simp [go_sem, hlw4, y1])
  have ka0 := HWorld.cell hr5 nF4a (o := 0) (v := .int .u8 lo.tag) (by simp [go_sem, hla4, a0])
  have ka1 := HWorld.cell hr5 nF4a (o := 1) (v := .int .u32 lo.to) (by simp [go_sem, hla4, a1])
  have kb0 := HWorld.cell hr5 nF4b (o := 0) (v := .int .u8 hi.tag) (by simp [go_sem, hlb4, b0])
  have kb1 := HWorld.cell hr5 nF4b (o := 1) (v := .int .u32 hi.to) (by simp [go_sem, hlb4, b1])
  have kx0 := HWorld.cell hr5 nF4c (o := 0) (v := .int .u8 v.tag) (by simp [go_sem])
  have kx1 := HWorld.cell hr5 nF4c (o := 1) (v := .int .u32 v.to) (by simp [go_sem])
  have hBx : ∀ x : HWorld F4 (w4.alloc (.cells #[.int .u8 v.tag, .int .u32 v.to] 32)) sb M, BoolsAt x.w B bs := fun x => (HB4.out.keep ((Upd.refl (fun _ => False) w4).alloc _) (fun h => h)).keep (x.ok hr5).upd nF4B
  have KLO := Lib.hid (fun (x : HWorld F4 (w4.alloc (.cells #[.int .u8 v.tag, .int .u32 v.to] 32)) sb M) => Calls.stoodK hr5 x (fun F' hF hs hu => HLO.out F' x.w hF (hBx x) (fun hf => by rcases hs B hf with q | q; exact nF4B q; have := HB4.out.lt; simp only [World.size_alloc] at q; omega)))
  have KHI := Lib.hid (fun (x : HWorld F4 (w4.alloc (.cells #[.int .u8 v.tag, .int .u32 v.to] 32)) sb M) => Calls.stoodK hr5 x (fun F' hF hs hu => HHI.out F' x.w hF (hBx x) (fun hf => by rcases hs B hf with q | q; exact nF4B q; have := HB4.out.lt; simp only [World.size_alloc] at q; omega)))
  have HR5 := Lib.hid hr5
  clear hBx hr5 y0 y1 a0 a1 b0 b1
  refine wp_region_stood F4 (w4.alloc (.cells #[.int .u8 v.tag, .int .u32 v.to] 32)) sb M (by kernel_rfl) (by kernel_rfl) (fun hr => Stood.refl hr) ?_
  (repeat (go_big_quiet_step (first | (go_at_call 43; with_reducible exact KLO.out _) | (go_at_call 43; with_reducible exact KHI.out _))))
  refine wpQuiet_nil ?_
  rintro wq ⟨x, rfl⟩
  try dsimp only
  go_wp2_with fail
  go_ret
  exact ⟨rfl, Stood.step HSF.out HU4.out ((Keeps.refl _).alloc _) (x.ok HR5.out)⟩

theorem chalves_calls {sb B : Nat} {M : St} {bs : List Bool} : ∀ (k : Nat), k ≤ 10 → ∀ (off cap : Nat) (l : Int) (v : Edge) (F : Nat → Prop) (W : World), StoreRep F W sb M → BoolsAt W B bs → ¬ F B → 0 ≤ l → 2 ^ k ≤ cap → cap ≤ 4096 → off + 2 ^ k ≤ bs.length → l + (k : Nat) = M.n → v.ok → IsMade 3 M bs k off l v →
    Calls Try.prog 43 #[.pointer (some ⟨sb, 0, none⟩), .agg #[.int .u8 v.tag, .int .u32 v.to], .slice (some ⟨B, off, none⟩) (2 ^ k) cap, .int .i64 l] W fun r w' => r = .returned (.bool true) ∧ Stood F W w' sb M := by
  intro k
  induction k with
  | zero =>
    intro _ off cap l v F W h hB _ _ _ _ _ hl _ hm
    exact chalves_zero h hB off cap l v (by simpa using hl) hm
  | succ k ih =>
    intro hk off cap l v F W h hB hF hl0 hcap hcap2 ho hl hv hm
    have h10 : 2 ^ k ≤ 2 ^ 10 := Nat.pow_le_pow_right (by decide) (by omega)
    have e10 : (2 : Nat) ^ 10 = 1024 := rfl
    have hpos : 0 < 2 ^ k := Nat.pow_pos (by decide)
    have e2 : 2 ^ (k + 1) = 2 * 2 ^ k := by rw [Nat.pow_succ]; omega
    rw [e2] at hcap ho ⊢
    obtain ⟨lo, hi, m1, m2, m3⟩ := hm
    exact chalves_step k (2 ^ k) hpos (by omega) h hB hF off cap l v lo hi hl0 hcap hcap2 ho hl hv m1 m2 m3 (ih (by omega))

end Go.Proofs.Ytnkehgohamjpaaa
