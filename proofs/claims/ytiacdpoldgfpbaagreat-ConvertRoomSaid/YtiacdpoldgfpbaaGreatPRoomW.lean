/-
  The walk of law17.Made, any form, where the room may be just enough.
-/
import Derived.Test.YtiacdpoldgfpbaaGreatPRoomA
namespace Go.Proofs.YtiacdpoldgfpbaaGreat
set_option linter.unusedSimpArgs false
set_option linter.unusedVariables false
set_option maxHeartbeats 600000
open Go.RowKit

def MadeQ (F : Nat → Prop) (W : World) (sb : Nat) (M' : St) (e : Edge) (r : Ending) (w' : World) : Prop :=
  r = .returned (.tuple #[.agg #[.int .u8 e.tag, .int .u32 e.to], .bool true]) ∧ e.ok ∧ Stood F W w' sb M'

set_option maxRecDepth 100000 in
theorem kmadeq_zero (f : Int) (hf : 1 ≤ f ∧ f ≤ 5) {F : Nat → Prop} {w : World} {sb B : Nat} {M : St} {bs : List Bool} (h : StoreRep F w sb M) (hB : BoolsAt w B bs) (off cap : Nat) (l : Int) (ho : off < bs.length) (hl : l = M.n) :
    Calls Tryz.prog 20 #[.pointer (some ⟨sb, 0, none⟩), .int .u8 f, .slice (some ⟨B, off, none⟩) 1 cap, .int .i64 l] w (MadeQ F w sb M (endE f (((bs.drop off).take 1).headD false) l)) := by
  have n0 := h.wf.n0
  have n16 := h.wf.n16
  obtain ⟨b, hb⟩ : ∃ b, bs[off]? = some b := ⟨_, List.getElem?_eq_getElem ho⟩
  have cB := hB.cell hb
  have hlt := lt_of_cell cB
  dsimp only at hlt
  have HEND := Lib.hid (fun (W : World) => end17_calls f b l hf (by omega) (by omega) W)
  have l0 : 0 ≤ l := by omega
  have l16 : l ≤ 16 := by omega
  have hz : (((bs.drop off).take 1).headD false) = b := by
    obtain ⟨hlt2, h3⟩ := List.getElem?_eq_some_iff.1 hb
    rw [List.drop_eq_getElem_cons hlt2, h3]
    rfl
  rw [hz]
  have HS := Lib.hid h
  clear h hB hl n0 n16 ho hb hz
  obtain ⟨e, he⟩ : ∃ e, e = endE f b l := ⟨_, rfl⟩
  rw [← he] at HEND ⊢
  have HE := Lib.hid he
  clear he
  go_enter Tryz.func20, Tryz.ntmps20
  go_wp2_with fail
  refine (HEND.out _).mono ?_
  rintro r w1 ⟨rfl, hk⟩
  have z0 : w1.cell? ⟨w.heap.size, 0, none⟩ = some (.int .u8 0) := hk.cell (by simp)
  have z1 : w1.cell? ⟨w.heap.size, 1, none⟩ = some (.int .u32 0) := hk.cell (by simp)
  have zf := fun o : Nat => hk.frz (a := ⟨w.heap.size, o, none⟩) (by simp) (by simp [go_sem])
  go_wp2_with fail
  all_goals refine bodyPost_ret (v := .tuple #[.agg #[.int .u8 e.tag, .int .u32 e.to], .bool true]) (by simp [results, Tryz.results20, go_sem, z0, z1]) rfl ?_
  all_goals refine ⟨rfl, by rw [HE.out]; exact endE_ok l0 l16, (Stood.refl HS.out).keeps (by (exact kp))⟩

set_option maxRecDepth 100000 in
set_option maxHeartbeats 2000000 in
theorem kmadeq_step (f : Int) (hf : 1 ≤ f ∧ f ≤ 5) {F : Nat → Prop} {w : World} {sb B : Nat} {M M1 M2 : St} {bs : List Bool} {lo hi : Edge} (k p : Nat) (hp1 : 1 ≤ p) (hp2 : p ≤ 1024) (h : StoreRep F w sb M) (hB : BoolsAt w B bs) (hFB : ¬ F B) (off cap : Nat) (l : Int) (hl0 : 0 ≤ l) (hcap : 2 * p ≤ cap) (hcap2 : cap ≤ 4096) (ho : off + 2 * p ≤ bs.length) (hl : l + (k + 1 : Nat) = M.n)
    (hn1 : M1.n = M.n) (herr : actErr M2 (mkK f M2 l lo hi) = 0)
    (ih1 : ∀ (W : World), StoreRep F W sb M → BoolsAt W B bs → Calls Tryz.prog 20 #[.pointer (some ⟨sb, 0, none⟩), .int .u8 f, .slice (some ⟨B, off, none⟩) p cap, .int .i64 (l + 1)] W (MadeQ F W sb M1 lo))
    (ih2 : ∀ (F1 : Nat → Prop) (W : World), StoreRep F1 W sb M1 → BoolsAt W B bs → ¬ F1 B → Calls Tryz.prog 20 #[.pointer (some ⟨sb, 0, none⟩), .int .u8 f, .slice (some ⟨B, off + p, none⟩) p (cap - p), .int .i64 (l + 1)] W (MadeQ F1 W sb M2 hi)) :
    Calls Tryz.prog 20 #[.pointer (some ⟨sb, 0, none⟩), .int .u8 f, .slice (some ⟨B, off, none⟩) (2 * p) cap, .int .i64 l] w (MadeQ F w sb (actSt M2 (mkK f M2 l lo hi)) (mkE f M2 (mkK f M2 l lo hi))) := by
  have n16 := h.wf.n16
  have hlt := hB.lt
  have nw : ¬ F w.heap.size := fun hf => by have := h.lt _ hf; omega
  have l16 : l ≤ 15 := by omega
  have HI1 := Lib.hid (fun (W : World) (hk : Keeps w W) => ih1 W (h.keeps hk) (hB.keep (Keeps.upd hk (fun _ => False)) (fun h => h)))
  have HIH := Lib.hid ih2
  have HS := Lib.hid h
  have HB := Lib.hid hB
  have HL := Lib.hid hl
  have q1 : (2 * (p : Int)) / 2 = (p : Int) := by omega
  have HFF := Lib.hid hf
  have HO := Lib.hid ho
  have HER := Lib.hid herr
  obtain ⟨e, he⟩ : ∃ e, e = mkE f M2 (mkK f M2 l lo hi) := ⟨_, rfl⟩
  obtain ⟨M3, hM3⟩ : ∃ M3, M3 = actSt M2 (mkK f M2 l lo hi) := ⟨_, rfl⟩
  rw [← he, ← hM3]
  have HEQ := Lib.hid he
  have HM3 := Lib.hid hM3
  clear h hB ih1 ih2 hl n16 herr he hM3 hn1
  go_enter Tryz.func20, Tryz.ntmps20
  go_wp2_with fail
  refine (HI1.out _ (by (exact kp))).mono ?_
  rintro r w1 ⟨rfl, hlok, hst1⟩
  have z0 := hst1.cell nw (o := 0) (v := .int .u8 0) (by simp)
  have z1 := hst1.cell nw (o := 1) (v := .int .u32 0) (by simp)
  have zf := fun o : Nat => hst1.frz (b := w.heap.size) (o := o) (by simp) nw (by simp [go_sem])
  obtain ⟨⟨F1, r1, sub1⟩, u1⟩ := hst1
  have s1 := u1.size
  simp only [World.size_alloc] at sub1 s1
  have u1w : Upd F w w1 := (Keeps.upd ((Keeps.refl w).alloc _) F).trans' u1
  have nF1B : ¬ F1 B := fun hf => by rcases sub1 B hf with q | q; exact hFB q; omega
  have nF1w : ¬ F1 w.heap.size := fun hf => by rcases sub1 _ hf with q | q; exact nw q; omega
  have nF1n : ¬ F1 w1.heap.size := fun hf => by have := r1.lt _ hf; omega
  have hB1 : BoolsAt w1 B bs := HB.out.keep u1w hFB
  have HI2 := Lib.hid (fun (W : World) (hk : Keeps w1 W) => HIH.out F1 W (r1.keeps hk) (hB1.keep (Keeps.upd hk (fun _ => False)) (fun h => h)) nF1B)
  have HU1 := Lib.hid u1w
  have SUB1 := Lib.hid sub1
  have hlw1 : w.heap.size < w1.heap.size := by omega
  clear r1 u1 u1w sub1
  go_wp2_with fail
  rw [show 2 * p - p = p by omega]
  refine (HI2.out _ (by (exact kp))).mono ?_
  rintro r w2 ⟨rfl, hhok, hst2⟩
  have z0 := hst2.cell nF1w (o := 0) (v := .int .u8 0) (by simp [go_sem, hlw1, z0])
  have z1 := hst2.cell nF1w (o := 1) (v := .int .u32 0) (by simp [go_sem, hlw1, z1])
  have zf := fun o : Nat => hst2.frz (b := w.heap.size) (o := o) (by simp; omega) nF1w (by rw [World.frozen?_alloc_old _ _ _ (by show w.heap.size ≠ w1.heap.size; omega)]; exact zf o)
  have x0 := hst2.cell nF1n (o := 0) (v := .int .u8 lo.tag) (by simp)
  have x1 := hst2.cell nF1n (o := 1) (v := .int .u32 lo.to) (by simp)
  obtain ⟨⟨F2, r2, sub2⟩, u2⟩ := hst2
  have s2 := u2.size
  simp only [World.size_alloc] at sub2 s2
  have u2w : Upd F w w2 := (HU1.out.trans' (Keeps.upd ((Keeps.refl w1).alloc _) F)).trans (u2.mono (fun k hk hf => by
    rcases SUB1.out k hf with q | q
    · exact .inl q
    · exact .inr ⟨by omega, hk⟩))
  have nF2w : ¬ F2 w.heap.size := fun hf => by rcases sub2 _ hf with q | q; exact nF1w q; omega
  have nF2n : ¬ F2 w1.heap.size := fun hf => by rcases sub2 _ hf with q | q; exact nF1n q; omega
  have nF2m : ¬ F2 w2.heap.size := fun hf => by have := r2.lt _ hf; omega
  have HMK : Hid (∀ (W : World), Keeps w2 W → Calls Tryz.prog 43 #[.pointer (some ⟨sb, 0, none⟩), .int .u8 f, .int .i64 l, .agg #[.int .u8 lo.tag, .int .u32 lo.to], .agg #[.int .u8 hi.tag, .int .u32 hi.to]] W fun r w' => r = .returned (.tuple #[.agg #[.int .u8 e.tag, .int .u32 e.to], .int .u8 0]) ∧ Stood F2 W w' sb M3) :=
    Lib.hid (fun W hk => by
      have hc := canon_make (r2.keeps hk) f l lo hi hlok hhok
      rw [kAct_mkK HFF.out] at hc
      refine hc.mono fun r w' hr => ⟨?_, ?_⟩
      · rw [hr.1, HEQ.out]
        congr 2
        simp only [Array.mk.injEq, List.cons.injEq, Value.int.injEq, true_and, and_true]
        exact ⟨rfl, HER.out⟩
      · rw [HM3.out]
        exact Stood.of hr.2.1 hr.2.2)
  have heok : e.ok := by
    rw [HEQ.out]
    exact mkK_ok r2.wf r2.few hlok hhok hl0 (by omega) HFF.out
  have HEOK := Lib.hid heok
  have HU2 := Lib.hid u2w
  have SUB2 := Lib.hid sub2
  have hlw2 : w.heap.size < w2.heap.size := by omega
  have hlw3 : w1.heap.size < w2.heap.size := by omega
  clear r2 u2 u2w heok sub2 q1
  go_wp2_with fail
  refine (HMK.out _ (by (exact kp))).mono ?_
  rintro r w3 ⟨rfl, hst3⟩
  have z0 := hst3.cell nF2w (o := 0) (v := .int .u8 0) (by simp [go_sem, hlw2, z0])
  have z1 := hst3.cell nF2w (o := 1) (v := .int .u32 0) (by simp [go_sem, hlw2, z1])
  have zf := fun o : Nat => hst3.frz (b := w.heap.size) (o := o) (by simp; omega) nF2w (by rw [World.frozen?_alloc_old _ _ _ (by show w.heap.size ≠ w2.heap.size; omega)]; exact zf o)
  have s3 := hst3.upd.size
  simp only [World.size_alloc] at s3
  have hlw4 : w.heap.size < w3.heap.size := by omega
  have hsub2 : ∀ j, F2 j → F j ∨ w.heap.size ≤ j := fun j hj => by
    rcases SUB2.out j hj with q | q
    · rcases SUB1.out j q with q | q
      · exact .inl q
      · right; omega
    · right; omega
  have hst := Stood.step hsub2 HU2.out ((Keeps.refl w2).alloc _) hst3
  obtain ⟨⟨F3, r3, sub3⟩, u3⟩ := hst3
  simp only [World.size_alloc] at sub3
  have nF3 : ¬ F3 w.heap.size := fun hf => by rcases sub3 _ hf with q | q; exact nF2w q; omega
  have hsub3 : ∀ j, F3 j → F j ∨ w.heap.size ≤ j := fun j hj => by
    rcases sub3 j hj with q | q
    · exact hsub2 j q
    · right; omega
  have HST := Lib.hid (Stood.putAt r3 hsub3 hst.upd nF3 (Nat.le_refl _))
  clear hst r3 sub3 u3 nF3 hsub3 hsub2 x0 x1
  go_wp2_with fail
  all_goals refine bodyPost_ret (v := .tuple #[.agg #[.int .u8 e.tag, .int .u32 e.to], .bool true]) (by simp [results, Tryz.results20, go_sem, hlw4, z0, z1]) rfl ?_
  all_goals refine ⟨rfl, HEOK.out, ?_⟩
  all_goals first | exact (HST.out _ _) | exact (HST.out _ _).keeps (by (exact kp))

theorem kmadeq_calls (f : Int) (hf : 1 ≤ f ∧ f ≤ 5) {sb B : Nat} {bs : List Bool} : ∀ (k : Nat), k ≤ 10 → ∀ (off cap : Nat) (l : Int) (F : Nat → Prop) (W : World) (M : St), StoreRep F W sb M → BoolsAt W B bs → ¬ F B → 0 ≤ l → 2 ^ k ≤ cap → cap ≤ 4096 → off + 2 ^ k ≤ bs.length → l + (k : Nat) = M.n → M.room < 1048576 → FitP f k M ((bs.drop off).take (2 ^ k)) l →
    Calls Tryz.prog 20 #[.pointer (some ⟨sb, 0, none⟩), .int .u8 f, .slice (some ⟨B, off, none⟩) (2 ^ k) cap, .int .i64 l] W (MadeQ F W sb (madeP f k M ((bs.drop off).take (2 ^ k)) l).1 (madeP f k M ((bs.drop off).take (2 ^ k)) l).2) := by
  intro k
  induction k with
  | zero =>
    intro _ off cap l F W M h hB _ _ _ _ ho hl _ _
    exact kmadeq_zero f hf h hB off cap l (by simp at ho; omega) (by simpa using hl)
  | succ k ih =>
    intro hk off cap l F W M h hB hF hl0 hcap hcap2 ho hl hroom hfit
    have h10 : 2 ^ k ≤ 2 ^ 10 := Nat.pow_le_pow_right (by decide) (by omega)
    have e10 : (2 : Nat) ^ 10 = 1024 := rfl
    have hpos : 0 < 2 ^ k := Nat.pow_pos (by decide)
    have e2 : 2 ^ (k + 1) = 2 * 2 ^ k := by rw [Nat.pow_succ]; omega
    have t1 : ((bs.drop off).take (2 ^ (k + 1))).take (2 ^ k) = (bs.drop off).take (2 ^ k) := by rw [List.take_take, show min (2 ^ k) (2 ^ (k + 1)) = 2 ^ k by omega]
    have t2 : ((bs.drop off).take (2 ^ (k + 1))).drop (2 ^ k) = (bs.drop (off + 2 ^ k)).take (2 ^ k) := by rw [List.drop_take, List.drop_drop, show 2 ^ (k + 1) - 2 ^ k = 2 ^ k by omega]
    have l1 : ((bs.drop off).take (2 ^ k)).length = 2 ^ k := by rw [List.length_take, List.length_drop]; omega
    obtain ⟨M1, lo, h1⟩ : ∃ M1 lo, madeP f k M (((bs.drop off).take (2 ^ (k + 1))).take (2 ^ k)) (l + 1) = (M1, lo) := ⟨_, _, rfl⟩
    obtain ⟨M2, hi, h2⟩ : ∃ M2 hi, madeP f k M1 (((bs.drop off).take (2 ^ (k + 1))).drop (2 ^ k)) (l + 1) = (M2, hi) := ⟨_, _, rfl⟩
    obtain ⟨f1, f2, f3⟩ := (fitP_step h1 h2).1 hfit
    rw [madeP_step h1 h2]
    rw [t1] at h1 f1
    rw [t2] at h2 f2
    have g1 := goodP_made hf k M ((bs.drop off).take (2 ^ k)) (l + 1) h.wf hroom (by omega) (by push_cast at hl; omega) l1 f1
    rw [h1] at g1
    dsimp only at g1
    have n1 := g1.ext.n
    have r1 := g1.room
    rw [e2] at hcap ho ⊢
    refine kmadeq_step f hf k (2 ^ k) hpos (by omega) h hB hF off cap l hl0 hcap hcap2 ho hl n1 f3 (fun W hW hBW => ?_) (fun F1 W hW hBW hFB => ?_)
    · have := ih (by omega) off cap (l + 1) F W M hW hBW hF (by omega) (by omega) hcap2 (by omega) (by push_cast at hl ⊢; omega) hroom f1
      rw [h1] at this
      exact this
    · have := ih (by omega) (off + 2 ^ k) (cap - 2 ^ k) (l + 1) F1 W M1 hW hBW hFB (by omega) (by omega) (by omega) (by omega) (by push_cast at hl ⊢; omega) (by omega) f2
      rw [h2] at this
      exact this

end Go.Proofs.YtiacdpoldgfpbaaGreat
