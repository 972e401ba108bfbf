/-
  The walk of law17.Made, any form (printed by wip/mk_madek.py).
-/
import Derived.Test.YtiacdpoldgfpbaaGreatPHPlainAxG
import Derived.Test.YtiacdpoldgfpbaaGreatPTableWxD
namespace Go.Proofs.YtiacdpoldgfpbaaGreat
set_option linter.unusedSimpArgs false
set_option linter.unusedVariables false
set_option maxHeartbeats 600000
open Go.RowKit

theorem end12_calls (b : Bool) (l : Int) (w : World) : Calls Tryz.prog 102 #[.bool b, .int .i64 l] w fun e w' => e = .returned (.agg #[.int .u8 (endE 3 b l).tag, .int .u32 (endE 3 b l).to]) ∧ Keeps w w' := by
  cases b
  · go_enter Tryz.func102, Tryz.ntmps102
    go_wp2
    all_goals refine bodyPost_ret (v := .agg #[.int .u8 0, .int .u32 0]) (by simp [results, Tryz.results102, go_sem]) rfl ⟨rfl, by (exact kp)⟩
  · go_enter Tryz.func102, Tryz.ntmps102
    go_wp2
    all_goals refine bodyPost_ret (v := .agg #[.int .u8 0, .int .u32 1]) (by simp [results, Tryz.results102, go_sem]) rfl ⟨rfl, by (exact kp)⟩

set_option maxRecDepth 100000 in
theorem end17_calls (f : Int) (b : Bool) (l : Int) (hf : 1 ≤ f ∧ f ≤ 5) (h0 : 0 ≤ l) (h1 : l ≤ 16) (w : World) : Calls Tryz.prog 61 #[.int .u8 f, .bool b, .int .i64 l] w fun e w' => e = .returned (.agg #[.int .u8 (endE f b l).tag, .int .u32 (endE f b l).to]) ∧ Keeps w w' := by
  by_cases h5 : f = 5
  · subst h5
    have hE := fun W => end16_calls b l h0 h1 W
    obtain ⟨e, he⟩ : ∃ e, e = endE 5 b l := ⟨_, rfl⟩
    rw [← he] at hE ⊢
    have HE := Lib.hid hE
    clear hE he
    go_enter Tryz.func61, Tryz.ntmps61
    go_wp2_with fail
    refine (HE.out _).mono ?_
    rintro r w1 ⟨rfl, hk⟩
    have z0 : w1.cell? ⟨w.heap.size, 0, none⟩ = some (.int .u8 0) := hk.cell (by simp)
    have z1 : w1.cell? ⟨w.heap.size, 1, none⟩ = some (.int .u32 0) := hk.cell (by simp)
    have zf := fun o : Nat => hk.frz (a := ⟨w.heap.size, o, none⟩) (by simp) (by simp [go_sem])
    go_wp2_with fail
    all_goals refine bodyPost_ret (v := .agg #[.int .u8 e.tag, .int .u32 e.to]) (by simp [results, Tryz.results61, go_sem, z0, z1]) rfl ⟨rfl, by (exact kp)⟩
  · have ee : endE f b l = endE 3 b l := by
      unfold endE
      rw [if_neg h5, if_neg (show ¬ (3 : Int) = 5 by decide)]
    rw [ee]
    have hE := fun W => end12_calls b l W
    obtain ⟨e, he⟩ : ∃ e, e = endE 3 b l := ⟨_, rfl⟩
    rw [← he] at hE ⊢
    have HE := Lib.hid hE
    clear hE he ee
    go_enter Tryz.func61, Tryz.ntmps61
    go_wp2_with fail
    refine (HE.out _).mono ?_
    rintro r w1 ⟨rfl, hk⟩
    have z0 : w1.cell? ⟨w.heap.size, 0, none⟩ = some (.int .u8 0) := hk.cell (by simp)
    have z1 : w1.cell? ⟨w.heap.size, 1, none⟩ = some (.int .u32 0) := hk.cell (by simp)
    have zf := fun o : Nat => hk.frz (a := ⟨w.heap.size, o, none⟩) (by simp) (by simp [go_sem])
    go_wp2_with fail
    all_goals refine bodyPost_ret (v := .agg #[.int .u8 e.tag, .int .u32 e.to]) (by simp [results, Tryz.results61, go_sem, z0, z1]) rfl ⟨rfl, by (exact kp)⟩

def MadeK (f : Int) (F : Nat → Prop) (W : World) (sb : Nat) (M : St) (bs : List Bool) (k off : Nat) (l : Int) (r : Ending) (w' : World) : Prop :=
  ∃ e M', r = .returned (.tuple #[.agg #[.int .u8 e.tag, .int .u32 e.to], .bool true]) ∧ e.ok ∧ MadeAt f M' bs k off l e ∧ GrownBy M M' ((2 ^ k - 1 : Nat) : Int) ∧ Stood F W w' sb M'

set_option maxRecDepth 100000 in
theorem kmade_zero (f : Int) (hf : 1 ≤ f ∧ f ≤ 5) {F : Nat → Prop} {w : World} {sb B : Nat} {M : St} {bs : List Bool} (h : StoreRep F w sb M) (hB : BoolsAt w B bs) (off cap : Nat) (l : Int) (ho : off < bs.length) (hl : l = M.n) :
    Calls Tryz.prog 20 #[.pointer (some ⟨sb, 0, none⟩), .int .u8 f, .slice (some ⟨B, off, none⟩) 1 cap, .int .i64 l] w (MadeK f F w sb M bs 0 off l) := by
  have n0 := h.wf.n0
  have n16 := h.wf.n16
  obtain ⟨b, hb⟩ : ∃ b, bs[off]? = some b := ⟨_, List.getElem?_eq_getElem ho⟩
  have cB := hB.cell hb
  have hlt := lt_of_cell cB
  dsimp only at hlt
  have HEND := Lib.hid (fun (W : World) => end17_calls f b l hf (by omega) (by omega) W)
  have l0 : 0 ≤ l := by omega
  have l16 : l ≤ 16 := by omega
  have hz : MadeAt f M bs 0 off l (endE f b l) := by
    refine ⟨⟨b, ?_, rfl⟩, by rw [hl]; exact endE_rightK h.wf⟩
    obtain ⟨hlt2, h3⟩ := List.getElem?_eq_some_iff.1 hb
    rw [List.drop_eq_getElem_cons hlt2, h3]
    rfl
  have HS := Lib.hid h
  have HBb := Lib.hid hz
  have HF := Lib.hid hf
  clear h hB hl n0 n16 ho hb hz
  obtain ⟨e, he⟩ : ∃ e, e = endE f b l := ⟨_, rfl⟩
  rw [← he] at HEND
  have HE := Lib.hid he
  clear he
  go_enter Tryz.func20, Tryz.ntmps20
  go_wp2_with fail
  refine (HEND.out _).mono ?_
  rintro r w1 ⟨rfl, hk⟩
  have z0 : w1.cell? ⟨w.heap.size, 0, none⟩ = some (.int .u8 0) := hk.cell (by simp)
  have z1 : w1.cell? ⟨w.heap.size, 1, none⟩ = some (.int .u32 0) := hk.cell (by simp)
  have zf := fun o : Nat => hk.frz (a := ⟨w.heap.size, o, none⟩) (by simp) (by simp [go_sem])
  go_wp2_with fail
  all_goals refine bodyPost_ret (v := .tuple #[.agg #[.int .u8 e.tag, .int .u32 e.to], .bool true]) (by simp [results, Tryz.results20, go_sem, z0, z1]) rfl ?_
  all_goals refine ⟨e, M, rfl, by rw [HE.out]; exact endE_ok l0 l16, by rw [HE.out]; exact HBb.out, GrownBy.refl HS.out.wf (by decide), (Stood.refl HS.out).keeps (by (exact kp))⟩

set_option maxRecDepth 100000 in
set_option maxHeartbeats 2000000 in
theorem kmade_step (f : Int) (hf : 1 ≤ f ∧ f ≤ 5) {F : Nat → Prop} {w : World} {sb B : Nat} {M : St} {bs : List Bool} (k p : Nat) (hp : 2 ^ k = p) (hp1 : 1 ≤ p) (hp2 : p ≤ 1024) (h : StoreRep F w sb M) (hB : BoolsAt w B bs) (hFB : ¬ F B) (off cap : Nat) (l : Int) (hl0 : 0 ≤ l) (hcap : 2 * p ≤ cap) (hcap2 : cap ≤ 4096) (ho : off + 2 * p ≤ bs.length) (hl : l + (k + 1 : Nat) = M.n) (hroom : M.len + ((2 * p - 1 : Nat) : Int) ≤ M.room)
    (ih : ∀ (off cap : Nat) (l : Int) (F : Nat → Prop) (W : World) (M : St), StoreRep F W sb M → BoolsAt W B bs → ¬ F B → 0 ≤ l → p ≤ cap → cap ≤ 4096 → off + p ≤ bs.length → l + (k : Nat) = M.n → M.len + ((p - 1 : Nat) : Int) ≤ M.room →
      Calls Tryz.prog 20 #[.pointer (some ⟨sb, 0, none⟩), .int .u8 f, .slice (some ⟨B, off, none⟩) p cap, .int .i64 l] W (MadeK f F W sb M bs k off l)) :
    Calls Tryz.prog 20 #[.pointer (some ⟨sb, 0, none⟩), .int .u8 f, .slice (some ⟨B, off, none⟩) (2 * p) cap, .int .i64 l] w (MadeK f F w sb M bs (k + 1) off l) := by
  have n16 := h.wf.n16
  have hlt := hB.lt
  have nw : ¬ F w.heap.size := fun hf => by have := h.lt _ hf; omega
  have l16 : l ≤ 15 := by omega
  have HI1 := Lib.hid (fun (W : World) (hk : Keeps w W) => ih off cap (l + 1) F W M (h.keeps hk) (hB.keep (Keeps.upd hk (fun _ => False)) (fun h => h)) hFB (by omega) (by omega) hcap2 (by omega) (by push_cast at hl ⊢; omega) (by omega))
  have HIH := Lib.hid ih
  have HS := Lib.hid h
  have HB := Lib.hid hB
  have HL := Lib.hid hl
  have HP := Lib.hid hp
  have HRM := Lib.hid hroom
  have q1 : (2 * (p : Int)) / 2 = (p : Int) := by omega
  have HFF := Lib.hid hf
  have HO := Lib.hid ho
  clear h hB ih hl hp hroom n16
  go_enter Tryz.func20, Tryz.ntmps20
  go_wp2_with fail
  refine (HI1.out _ (by (exact kp))).mono ?_
  rintro r w1 ⟨lo, M1, rfl, hlok, hm1, hg1, hst1⟩
  have z0 := hst1.cell nw (o := 0) (v := .int .u8 0) (by simp)
  have z1 := hst1.cell nw (o := 1) (v := .int .u32 0) (by simp)
  have zf := fun o : Nat => hst1.frz (b := w.heap.size) (o := o) (by simp) nw (by simp [go_sem])
  obtain ⟨⟨F1, r1, sub1⟩, u1⟩ := hst1
  have s1 := u1.size
  simp only [World.size_alloc] at sub1 s1
  have u1w : Upd F w w1 := (Keeps.upd ((Keeps.refl w).alloc _) F).trans' u1
  have nF1B : ¬ F1 B := fun hf => by rcases sub1 B hf with q | q; exact hFB q; omega
  have nF1w : ¬ F1 w.heap.size := fun hf => by rcases sub1 _ hf with q | q; exact nw q; omega
  have nF1n : ¬ F1 w1.heap.size := fun hf => by have := r1.lt _ hf; omega
  have hB1 : BoolsAt w1 B bs := HB.out.keep u1w hFB
  have hl1 : l + 1 + (k : Nat) = M1.n := by have := HL.out; rw [hg1.ext.n]; push_cast at this ⊢; omega
  have g1l := hg1.len
  have g1r := hg1.room
  rw [HP.out] at g1l
  have HI2 := Lib.hid (fun (W : World) (hk : Keeps w1 W) => HIH.out (off + p) (cap - p) (l + 1) F1 W M1 (r1.keeps hk) (hB1.keep (Keeps.upd hk (fun _ => False)) (fun h => h)) nF1B (by omega) (by omega) (by omega) (by omega) hl1 (by have := HRM.out; omega))
  have HR1 := Lib.hid r1
  have HM1 := Lib.hid hm1
  have HG1 := Lib.hid hg1
  have HU1 := Lib.hid u1w
  have SUB1 := Lib.hid sub1
  have hlw1 : w.heap.size < w1.heap.size := by omega
  clear r1 hm1 hg1 u1 u1w hl1 g1l g1r sub1
  go_wp2_with fail
  rw [show 2 * p - p = p by omega]
  refine (HI2.out _ (by (exact kp))).mono ?_
  rintro r w2 ⟨hi, M2, rfl, hhok, hm2, hg2, hst2⟩
  have z0 := hst2.cell nF1w (o := 0) (v := .int .u8 0) (by simp [go_sem, hlw1, z0])
  have z1 := hst2.cell nF1w (o := 1) (v := .int .u32 0) (by simp [go_sem, hlw1, z1])
  have zf := fun o : Nat => hst2.frz (b := w.heap.size) (o := o) (by simp; omega) nF1w (by rw [World.frozen?_alloc_old _ _ _ (by show w.heap.size ≠ w1.heap.size; omega)]; exact zf o)
  have x0 := hst2.cell nF1n (o := 0) (v := .int .u8 lo.tag) (by simp)
  have x1 := hst2.cell nF1n (o := 1) (v := .int .u32 lo.to) (by simp)
  obtain ⟨⟨F2, r2, sub2⟩, u2⟩ := hst2
  have s2 := u2.size
  simp only [World.size_alloc] at sub2 s2
  have u2w : Upd F w w2 := (HU1.out.trans' (Keeps.upd ((Keeps.refl w1).alloc _) F)).trans (u2.mono (fun k hk hf => by
    rcases SUB1.out k hf with q | q
    · exact .inl q
    · exact .inr ⟨by omega, hk⟩))
  have nF2w : ¬ F2 w.heap.size := fun hf => by rcases sub2 _ hf with q | q; exact nF1w q; omega
  have nF2n : ¬ F2 w1.heap.size := fun hf => by rcases sub2 _ hf with q | q; exact nF1n q; omega
  have nF2m : ¬ F2 w2.heap.size := fun hf => by have := r2.lt _ hf; omega
  have hm1' := MadeAt.ext hg2.ext HG1.out.wf HFF.out HM1.out
  have hn2 : M2.n = M.n := hg2.ext.n.trans HG1.out.ext.n
  have hlk : l + 1 + (k : Nat) = M2.n := by have := HL.out; rw [hn2]; push_cast at this ⊢; omega
  have hrl := hm1'.1.leads hg2.wf HFF.out hlk
  have hrh := hm2.1.leads hg2.wf HFF.out hlk
  have g1l := HG1.out.len
  have g2l := hg2.len
  have g1r := HG1.out.room
  have g2r := hg2.room
  have hkl := HL.out
  have hrm := HRM.out
  rw [HP.out] at g1l g2l
  have hmk := makesK hg2.wf HFF.out hl0 (by rw [hn2]; push_cast at hkl; omega) (by omega) hrl hrh hm1'.2 hm2.2
  obtain ⟨e, he⟩ : ∃ e, e = mkE f M2 (mkK f M2 l lo hi) := ⟨_, rfl⟩
  obtain ⟨M3, hM3⟩ : ∃ M3, M3 = actSt M2 (mkK f M2 l lo hi) := ⟨_, rfl⟩
  have hbo := hmk.pair
  have hrt := hmk.right
  have hgr := hmk.grown
  rw [← he, ← hM3] at hbo hrt
  rw [← hM3] at hgr
  have HMK : Hid (∀ (W : World), Keeps w2 W → Calls Tryz.prog 43 #[.pointer (some ⟨sb, 0, none⟩), .int .u8 f, .int .i64 l, .agg #[.int .u8 lo.tag, .int .u32 lo.to], .agg #[.int .u8 hi.tag, .int .u32 hi.to]] W fun r w' => r = .returned (.tuple #[.agg #[.int .u8 e.tag, .int .u32 e.to], .int .u8 0]) ∧ Stood F2 W w' sb M3) :=
    Lib.hid (fun W hk => by
      have hc := canon_make (r2.keeps hk) f l lo hi hlok hhok
      rw [kAct_mkK HFF.out] at hc
      have herr := hmk.err
      refine hc.mono fun r w' hr => ⟨?_, ?_⟩
      · rw [hr.1, he]
        congr 2
        simp only [Array.mk.injEq, List.cons.injEq, Value.int.injEq, true_and, and_true]
        exact ⟨rfl, herr⟩
      · rw [hM3]
        exact Stood.of hr.2.1 hr.2.2)
  have hfinal : MadeAt f M3 bs (k + 1) off l e := by
    refine MadeAt.pair (MadeAt.ext hgr.ext hg2.wf HFF.out hm1') ?_ hbo hrt (by rw [Nat.pow_succ, HP.out]; have := HO.out; omega)
    rw [HP.out]
    exact MadeAt.ext hgr.ext hg2.wf HFF.out hm2
  have hgrown : GrownBy M M3 ((2 ^ (k + 1) - 1 : Nat) : Int) := by
    refine (HG1.out.trans hg2 (Int.le_refl _)).trans hgr ?_
    rw [Nat.pow_succ, HP.out]
    omega
  have heok : e.ok := by
    rw [he]
    exact mkK_ok r2.wf r2.few hlok hhok hl0 (by have := r2.wf.n16; omega) HFF.out
  have HFIN := Lib.hid hfinal
  have HGR := Lib.hid hgrown
  have HEOK := Lib.hid heok
  have HU2 := Lib.hid u2w
  have SUB2 := Lib.hid sub2
  have hlw2 : w.heap.size < w2.heap.size := by omega
  have hlw3 : w1.heap.size < w2.heap.size := by omega
  clear r2 hm1' hm2 hg2 u2 u2w hn2 hlk hrl hrh g1l g2l g1r g2r hkl hrm hmk hbo hrt hgr hfinal hgrown heok he hM3 sub2 q1
  go_wp2_with fail
  refine (HMK.out _ (by (exact kp))).mono ?_
  rintro r w3 ⟨rfl, hst3⟩
  have z0 := hst3.cell nF2w (o := 0) (v := .int .u8 0) (by simp [go_sem, hlw2, z0])
  have z1 := hst3.cell nF2w (o := 1) (v := .int .u32 0) (by simp [go_sem, hlw2, z1])
  have zf := fun o : Nat => hst3.frz (b := w.heap.size) (o := o) (by simp; omega) nF2w (by rw [World.frozen?_alloc_old _ _ _ (by show w.heap.size ≠ w2.heap.size; omega)]; exact zf o)
  have s3 := hst3.upd.size
  simp only [World.size_alloc] at s3
  have hlw4 : w.heap.size < w3.heap.size := by omega
  have hsub2 : ∀ j, F2 j → F j ∨ w.heap.size ≤ j := fun j hj => by
    rcases SUB2.out j hj with q | q
    · rcases SUB1.out j q with q | q
      · exact .inl q
      · right; omega
    · right; omega
  have hst := Stood.step hsub2 HU2.out ((Keeps.refl w2).alloc _) hst3
  obtain ⟨⟨F3, r3, sub3⟩, u3⟩ := hst3
  simp only [World.size_alloc] at sub3
  have nF3 : ¬ F3 w.heap.size := fun hf => by rcases sub3 _ hf with q | q; exact nF2w q; omega
  have hsub3 : ∀ j, F3 j → F j ∨ w.heap.size ≤ j := fun j hj => by
    rcases sub3 j hj with q | q
    · exact hsub2 j q
    · right; omega
  have HST := Lib.hid (Stood.putAt r3 hsub3 hst.upd nF3 (Nat.le_refl _))
  clear hst r3 sub3 u3 nF3 hsub3 hsub2 x0 x1
  go_wp2_with fail
  all_goals refine bodyPost_ret (v := .tuple #[.agg #[.int .u8 e.tag, .int .u32 e.to], .bool true]) (by simp [results, Tryz.results20, go_sem, hlw4, z0, z1]) rfl ?_
  all_goals refine ⟨e, M3, rfl, HEOK.out, HFIN.out, HGR.out, ?_⟩
  all_goals first | exact (HST.out _ _) | exact (HST.out _ _).keeps (by (exact kp))

theorem kmade_calls (f : Int) (hf : 1 ≤ f ∧ f ≤ 5) {sb B : Nat} {bs : List Bool} : ∀ (k : Nat), k ≤ 10 → ∀ (off cap : Nat) (l : Int) (F : Nat → Prop) (W : World) (M : St), StoreRep F W sb M → BoolsAt W B bs → ¬ F B → 0 ≤ l → 2 ^ k ≤ cap → cap ≤ 4096 → off + 2 ^ k ≤ bs.length → l + (k : Nat) = M.n → M.len + ((2 ^ k - 1 : Nat) : Int) ≤ M.room →
    Calls Tryz.prog 20 #[.pointer (some ⟨sb, 0, none⟩), .int .u8 f, .slice (some ⟨B, off, none⟩) (2 ^ k) cap, .int .i64 l] W (MadeK f F W sb M bs k off l) := by
  intro k
  induction k with
  | zero =>
    intro _ off cap l F W M h hB _ _ _ _ ho hl _
    exact kmade_zero f hf h hB off cap l (by simp at ho; omega) (by simpa using hl)
  | succ k ih =>
    intro hk off cap l F W M h hB hF hl0 hcap hcap2 ho hl hroom
    have h10 : 2 ^ k ≤ 2 ^ 10 := Nat.pow_le_pow_right (by decide) (by omega)
    have e10 : (2 : Nat) ^ 10 = 1024 := rfl
    have hpos : 0 < 2 ^ k := Nat.pow_pos (by decide)
    have e2 : 2 ^ (k + 1) = 2 * 2 ^ k := by rw [Nat.pow_succ]; omega
    rw [e2] at hcap ho hroom ⊢
    exact kmade_step f hf k (2 ^ k) rfl hpos (by omega) h hB hF off cap l hl0 hcap hcap2 ho hl hroom (ih (by omega))

end Go.Proofs.YtiacdpoldgfpbaaGreat
