/-
  The walk of law16.Made where the room may not be enough.
-/
import Derived.Test.YtacanmmkhbdmlaaPFitsP
import Derived.Test.YtacanmmkhbdmlaaPHPlainA
import Derived.Test.YtacanmmkhbdmlaaPTMakeA
import Derived.Test.YtacanmmkhbdmlaaPViewA
namespace Go.Proofs.Ytacanmmkhbdmlaa
set_option linter.unusedSimpArgs false
set_option linter.unusedVariables false
set_option maxHeartbeats 600000
open Go.RowKit

/-- What Made tells of a part of a table. -/
def FMade (F : Nat → Prop) (W : World) (sb : Nat) (M : St) (bs : List Bool) (k off : Nat) (l : Int) (r : Ending) (w' : World) : Prop :=
  ∃ e ok M', r = .returned (.tuple #[.agg #[.int .u8 e.tag, .int .u32 e.to], .bool ok]) ∧ e.ok ∧ FitsOut M bs k off l M' ok e ∧ Stood F W w' sb M'

set_option maxRecDepth 100000 in
theorem fmade_zero {F : Nat → Prop} {w : World} {sb B : Nat} {M : St} {bs : List Bool} (h : StoreRep F w sb M) (hB : BoolsAt w B bs) (off cap : Nat) (l : Int) (ho : off < bs.length) (hl : l = M.n) :
    Calls Try.prog 19 #[.pointer (some ⟨sb, 0, none⟩), .slice (some ⟨B, off, none⟩) 1 cap, .int .i64 l] w (FMade F w sb M bs 0 off l) := by
  have n0 := h.wf.n0
  have n16 := h.wf.n16
  obtain ⟨b, hb⟩ : ∃ b, bs[off]? = some b := ⟨_, List.getElem?_eq_getElem ho⟩
  have cB := hB.cell hb
  have hlt := lt_of_cell cB
  dsimp only at hlt
  have HEND := Lib.hid (fun (W : World) => end16_calls b l (by omega) (by omega) W)
  have l0 : 0 ≤ l := by omega
  have l16 : l ≤ 16 := by omega
  have HS := Lib.hid h
  have HBb := Lib.hid hb
  clear h hB hl n0 n16 ho hb
  obtain ⟨e, he⟩ : ∃ e, e = endE 5 b l := ⟨_, rfl⟩
  rw [← he] at HEND
  have HE := Lib.hid he
  clear he
  go_enter Try.func19, Try.ntmps19
  go_wp2_with fail
  refine (HEND.out _).mono ?_
  rintro r w1 ⟨rfl, hk⟩
  have z0 : w1.cell? ⟨w.heap.size, 0, none⟩ = some (.int .u8 0) := hk.cell (by simp)
  have z1 : w1.cell? ⟨w.heap.size, 1, none⟩ = some (.int .u32 0) := hk.cell (by simp)
  have zf := fun o : Nat => hk.frz (a := ⟨w.heap.size, o, none⟩) (by simp) (by simp [go_sem])
  go_wp2_with fail
  all_goals refine bodyPost_ret (v := .tuple #[.agg #[.int .u8 e.tag, .int .u32 e.to], .bool true]) (by simp [results, Try.results19, go_sem, z0, z1]) rfl ?_
  all_goals refine ⟨e, true, M, rfl, by rw [HE.out]; exact endE_ok l0 l16, by rw [HE.out]; exact fits_zero HS.out.wf HBb.out, (Stood.refl HS.out).keeps (by (repeat (first | with_reducible exact Keeps.refl _ | with_reducible assumption | with_reducible refine Keeps.alloc ?_ _ | with_reducible refine Keeps.drewN ?_ _ | with_reducible refine Keeps.drew ?_ | refine Keeps.setCell ?_ (by dsimp only; omega) _ | with_reducible refine Keeps.trans ?_ (by assumption))))⟩

set_option maxRecDepth 100000 in
set_option maxHeartbeats 2000000 in
theorem fmade_step {F : Nat → Prop} {w : World} {sb B : Nat} {M : St} {bs : List Bool} (k p : Nat) (hp : 2 ^ k = p) (hp1 : 1 ≤ p) (hp2 : p ≤ 1024) (h : StoreRep F w sb M) (hB : BoolsAt w B bs) (hFB : ¬ F B) (off cap : Nat) (l : Int) (hl0 : 0 ≤ l) (hcap : 2 * p ≤ cap) (hcap2 : cap ≤ 4096) (ho : off + 2 * p ≤ bs.length) (hl : l + (k + 1 : Nat) = M.n) (hroom : M.len + ((2 * p - 1 : Nat) : Int) ≤ 4096)
    (ih : ∀ (off cap : Nat) (l : Int) (F : Nat → Prop) (W : World) (M : St), StoreRep F W sb M → BoolsAt W B bs → ¬ F B → 0 ≤ l → p ≤ cap → cap ≤ 4096 → off + p ≤ bs.length → l + (k : Nat) = M.n → M.len + ((p - 1 : Nat) : Int) ≤ 4096 →
      Calls Try.prog 19 #[.pointer (some ⟨sb, 0, none⟩), .slice (some ⟨B, off, none⟩) p cap, .int .i64 l] W (FMade F W sb M bs k off l)) :
    Calls Try.prog 19 #[.pointer (some ⟨sb, 0, none⟩), .slice (some ⟨B, off, none⟩) (2 * p) cap, .int .i64 l] w (FMade F w sb M bs (k + 1) off l) := by
  have n16 := h.wf.n16
  have hlt := hB.lt
  have nw : ¬ F w.heap.size := fun hf => by have := h.lt _ hf; omega
  have l16 : l ≤ 15 := by omega
  have HI1 := Lib.hid (fun (W : World) (hk : Keeps w W) => ih off cap (l + 1) F W M (h.keeps hk) (hB.keep (Keeps.upd hk (fun _ => False)) (fun h => h)) hFB (by omega) (by omega) hcap2 (by omega) (by push_cast at hl ⊢; omega) (by omega))
  have HIH := Lib.hid ih
  have HS := Lib.hid h
  have HB := Lib.hid hB
  have HL := Lib.hid hl
  have HP := Lib.hid hp
  have HRM := Lib.hid hroom
  have q1 : (2 * (p : Int)) / 2 = (p : Int) := by omega
  clear h hB ih hl hp hroom n16
  go_enter Try.func19, Try.ntmps19
  go_wp2_with fail
  refine (HI1.out _ (by (repeat (first | with_reducible exact Keeps.refl _ | with_reducible assumption | with_reducible refine Keeps.alloc ?_ _ | with_reducible refine Keeps.drewN ?_ _ | with_reducible refine Keeps.drew ?_ | refine Keeps.setCell ?_ (by dsimp only; omega) _ | with_reducible refine Keeps.trans ?_ (by assumption))))).mono ?_
  rintro r w1 ⟨lo, oka, M1, rfl, hlok, hm1, hst1⟩
  have hg1 := hm1.grown
  have z0 := hst1.cell nw (o := 0) (v := .int .u8 0) (by simp)
  have z1 := hst1.cell nw (o := 1) (v := .int .u32 0) (by simp)
  have zf := fun o : Nat => hst1.frz (b := w.heap.size) (o := o) (by simp) nw (by simp [go_sem])
  obtain ⟨⟨F1, r1, sub1⟩, u1⟩ := hst1
  have s1 := u1.size
  simp only [World.size_alloc] at sub1 s1
  have u1w : Upd F w w1 := (Keeps.upd ((Keeps.refl w).alloc _) F).trans' u1
  have nF1B : ¬ F1 B := fun hf => by rcases sub1 B hf with q | q; exact hFB q; omega
  have nF1w : ¬ F1 w.heap.size := fun hf => by rcases sub1 _ hf with q | q; exact nw q; omega
  have nF1n : ¬ F1 w1.heap.size := fun hf => by have := r1.lt _ hf; omega
  have hB1 : BoolsAt w1 B bs := HB.out.keep u1w hFB
  have hl1 : l + 1 + (k : Nat) = M1.n := by have := HL.out; rw [hg1.ext.n]; push_cast at this ⊢; omega
  have g1l := hg1.len
  have g1r := hg1.room
  rw [HP.out] at g1l
  have HI2 := Lib.hid (fun (W : World) (hk : Keeps w1 W) => HIH.out (off + p) (cap - p) (l + 1) F1 W M1 (r1.keeps hk) (hB1.keep (Keeps.upd hk (fun _ => False)) (fun h => h)) nF1B (by omega) (by omega) (by omega) (by omega) hl1 (by have := HRM.out; omega))
  have HR1 := Lib.hid r1
  have HM1 := Lib.hid hm1
  have HG1 := Lib.hid hg1
  have HU1 := Lib.hid u1w
  have SUB1 := Lib.hid sub1
  have hlw1 : w.heap.size < w1.heap.size := by omega
  clear r1 hm1 hg1 u1 u1w hl1 g1l g1r sub1
  go_wp2_with fail
  rw [show 2 * p - p = p by omega]
  refine (HI2.out _ (by (repeat (first | with_reducible exact Keeps.refl _ | with_reducible assumption | with_reducible refine Keeps.alloc ?_ _ | with_reducible refine Keeps.drewN ?_ _ | with_reducible refine Keeps.drew ?_ | refine Keeps.setCell ?_ (by dsimp only; omega) _ | with_reducible refine Keeps.trans ?_ (by assumption))))).mono ?_
  rintro r w2 ⟨hi, okb, M2, rfl, hhok, hm2, hst2⟩
  have hg2 := hm2.grown
  have z0 := hst2.cell nF1w (o := 0) (v := .int .u8 0) (by simp [go_sem, hlw1, z0])
  have z1 := hst2.cell nF1w (o := 1) (v := .int .u32 0) (by simp [go_sem, hlw1, z1])
  have zf := fun o : Nat => hst2.frz (b := w.heap.size) (o := o) (by simp; omega) nF1w (by rw [World.frozen?_alloc_old _ _ _ (by show w.heap.size ≠ w1.heap.size; omega)]; exact zf o)
  have x0 := hst2.cell nF1n (o := 0) (v := .int .u8 lo.tag) (by simp)
  have x1 := hst2.cell nF1n (o := 1) (v := .int .u32 lo.to) (by simp)
  obtain ⟨⟨F2, r2, sub2⟩, u2⟩ := hst2
  have s2 := u2.size
  simp only [World.size_alloc] at sub2 s2
  have u2w : Upd F w w2 := (HU1.out.trans' (Keeps.upd ((Keeps.refl w1).alloc _) F)).trans (u2.mono (fun k hk hf => by
    rcases SUB1.out k hf with q | q
    · exact .inl q
    · exact .inr ⟨by omega, hk⟩))
  have nF2w : ¬ F2 w.heap.size := fun hf => by rcases sub2 _ hf with q | q; exact nF1w q; omega
  have nF2n : ¬ F2 w1.heap.size := fun hf => by rcases sub2 _ hf with q | q; exact nF1n q; omega
  have nF2m : ¬ F2 w2.heap.size := fun hf => by have := r2.lt _ hf; omega
  have hl' := HL.out
  have hsub2 : ∀ j, F2 j → F j ∨ w.heap.size ≤ j := fun j hj => by
    rcases sub2 j hj with q | q
    · rcases SUB1.out j q with q | q
      · exact .inl q
      · right; omega
    · right; omega
  have hm2p : FitsOut M1 bs k (off + 2 ^ k) (l + 1) M2 okb hi := by rw [HP.out]; exact hm2
  have hlen : M.len + ((2 ^ (k + 1) - 1 : Nat) : Int) ≤ 4096 := by rw [Nat.pow_succ, HP.out]; have := HRM.out; omega
  have hoo : off + 2 ^ (k + 1) ≤ bs.length := by rw [Nat.pow_succ, HP.out]; omega
  by_cases hab : oka = true ∧ okb = true
  · obtain ⟨rfl, rfl⟩ := hab
    obtain ⟨hfit, herr⟩ := fits_both hl0 hl' hlen HM1.out hm2p
    obtain ⟨e, he⟩ : ∃ e, e = mkE 5 M2 (tAct M2 l lo hi) := ⟨_, rfl⟩
    obtain ⟨er, hee⟩ : ∃ er, er = actErr M2 (tAct M2 l lo hi) := ⟨_, rfl⟩
    obtain ⟨M3, hM3⟩ : ∃ M3, M3 = actSt M2 (tAct M2 l lo hi) := ⟨_, rfl⟩
    have heok : e.ok := by
      rw [he]
      exact mkE_ok r2.wf r2.few hlok hhok hl0 (by have := r2.wf.n16; omega) (.inr (.inr rfl))
    have HMK : Hid (∀ (W : World), Keeps w2 W → Calls Try.prog 58 #[.pointer (some ⟨sb, 0, none⟩), .int .i64 l, .agg #[.int .u8 lo.tag, .int .u32 lo.to], .agg #[.int .u8 hi.tag, .int .u32 hi.to]] W fun r w' => r = .returned (.tuple #[.agg #[.int .u8 e.tag, .int .u32 e.to], .int .u8 er]) ∧ Stood F2 W w' sb M3) :=
      Lib.hid (fun W hk => by
        have hc := tbdd_make (r2.keeps hk) l lo hi hlok hhok
        refine hc.mono fun r w' hr => ⟨?_, ?_⟩
        · rw [hr.1, he, hee]
          rfl
        · rw [hM3]
          exact Stood.of hr.2.1 hr.2.2)
    rw [← he, ← hee, ← hM3] at hfit
    rw [← hee] at herr
    have HFIT := Lib.hid hfit
    have HEOK := Lib.hid heok
    have HU2 := Lib.hid u2w
    have hlw2 : w.heap.size < w2.heap.size := by omega
    have hlw3 : w1.heap.size < w2.heap.size := by omega
    have HSUB := Lib.hid hsub2
    clear r2 hm2 hm2p hg2 u2 u2w hfit heok he hee hM3 sub2 q1 hsub2 hlen hoo hl'
    rcases herr with rfl | rfl
    all_goals
      go_wp2_with fail
      refine (HMK.out _ (by (repeat (first | with_reducible exact Keeps.refl _ | with_reducible assumption | with_reducible refine Keeps.alloc ?_ _ | with_reducible refine Keeps.drewN ?_ _ | with_reducible refine Keeps.drew ?_ | refine Keeps.setCell ?_ (by dsimp only; omega) _ | with_reducible refine Keeps.trans ?_ (by assumption))))).mono ?_
      rintro r w3 ⟨rfl, hst3⟩
      have z0 := hst3.cell nF2w (o := 0) (v := .int .u8 0) (by simp [go_sem, hlw2, z0])
      have z1 := hst3.cell nF2w (o := 1) (v := .int .u32 0) (by simp [go_sem, hlw2, z1])
      have zf := fun o : Nat => hst3.frz (b := w.heap.size) (o := o) (by simp; omega) nF2w (by rw [World.frozen?_alloc_old _ _ _ (by show w.heap.size ≠ w2.heap.size; omega)]; exact zf o)
      have s3 := hst3.upd.size
      simp only [World.size_alloc] at s3
      have hlw4 : w.heap.size < w3.heap.size := by omega
      have hst := Stood.step HSUB.out HU2.out ((Keeps.refl w2).alloc _) hst3
      obtain ⟨⟨F3, r3, sub3⟩, u3⟩ := hst3
      simp only [World.size_alloc] at sub3
      have nF3 : ¬ F3 w.heap.size := fun hf => by rcases sub3 _ hf with q | q; exact nF2w q; omega
      have hsub3 : ∀ j, F3 j → F j ∨ w.heap.size ≤ j := fun j hj => by
        rcases sub3 j hj with q | q
        · exact HSUB.out j q
        · right; omega
      have HST := Lib.hid (Stood.putAt r3 hsub3 hst.upd nF3 (Nat.le_refl _))
      clear hst r3 sub3 u3 nF3 hsub3 x0 x1
      go_wp2_with fail
    all_goals first
      | (refine bodyPost_ret (v := .tuple #[.agg #[.int .u8 e.tag, .int .u32 e.to], .bool true]) (by simp [results, Try.results19, go_sem, hlw4, z0, z1]) rfl ?_
         refine ⟨e, true, M3, rfl, HEOK.out, HFIT.out, ?_⟩
         first | exact (HST.out _ _) | exact (HST.out _ _).keeps (by (repeat (first | with_reducible exact Keeps.refl _ | with_reducible assumption | with_reducible refine Keeps.alloc ?_ _ | with_reducible refine Keeps.drewN ?_ _ | with_reducible refine Keeps.drew ?_ | refine Keeps.setCell ?_ (by dsimp only; omega) _ | with_reducible refine Keeps.trans ?_ (by assumption)))))
      | (refine bodyPost_ret (v := .tuple #[.agg #[.int .u8 e.tag, .int .u32 e.to], .bool false]) (by simp [results, Try.results19, go_sem, hlw4, z0, z1]) rfl ?_
         refine ⟨e, false, M3, rfl, HEOK.out, HFIT.out, ?_⟩
         first | exact (HST.out _ _) | exact (HST.out _ _).keeps (by (repeat (first | with_reducible exact Keeps.refl _ | with_reducible assumption | with_reducible refine Keeps.alloc ?_ _ | with_reducible refine Keeps.drewN ?_ _ | with_reducible refine Keeps.drew ?_ | refine Keeps.setCell ?_ (by dsimp only; omega) _ | with_reducible refine Keeps.trans ?_ (by assumption)))))
  · have hfail := fits_fail (e := Edge.zero) hl0 hl' hlen hoo HM1.out hm2p (by cases oka <;> cases okb <;> simp_all)
    have HFIT := Lib.hid hfail
    have hlw2 : w.heap.size < w2.heap.size := by omega
    have hlw3 : w1.heap.size < w2.heap.size := by omega
    have HST := Lib.hid (Stood.putAt r2 hsub2 u2w nF2w (Nat.le_refl _))
    clear r2 hm2 hm2p hg2 u2 u2w sub2 q1 hsub2 hlen hoo hl' hfail x0 x1
    cases oka
    · go_wp2_with fail
      refine bodyPost_ret (v := .tuple #[.agg #[.int .u8 0, .int .u32 0], .bool false]) (by simp [results, Try.results19, go_sem, hlw2, z0, z1]) rfl ?_
      exact ⟨Edge.zero, false, M2, rfl, ⟨⟨by decide, by decide⟩, ⟨by decide, by decide⟩⟩, HFIT.out, (HST.out _ _).keeps ((Keeps.refl _).alloc _)⟩
    · cases okb
      · go_wp2_with fail
        refine bodyPost_ret (v := .tuple #[.agg #[.int .u8 0, .int .u32 0], .bool false]) (by simp [results, Try.results19, go_sem, hlw2, z0, z1]) rfl ?_
        exact ⟨Edge.zero, false, M2, rfl, ⟨⟨by decide, by decide⟩, ⟨by decide, by decide⟩⟩, HFIT.out, (HST.out _ _).keeps ((Keeps.refl _).alloc _)⟩
      · exact absurd ⟨rfl, rfl⟩ hab

theorem fmade_calls {sb B : Nat} {bs : List Bool} : ∀ (k : Nat), k ≤ 10 → ∀ (off cap : Nat) (l : Int) (F : Nat → Prop) (W : World) (M : St), StoreRep F W sb M → BoolsAt W B bs → ¬ F B → 0 ≤ l → 2 ^ k ≤ cap → cap ≤ 4096 → off + 2 ^ k ≤ bs.length → l + (k : Nat) = M.n → M.len + ((2 ^ k - 1 : Nat) : Int) ≤ 4096 →
    Calls Try.prog 19 #[.pointer (some ⟨sb, 0, none⟩), .slice (some ⟨B, off, none⟩) (2 ^ k) cap, .int .i64 l] W (FMade F W sb M bs k off l) := by
  intro k
  induction k with
  | zero =>
    intro _ off cap l F W M h hB _ _ _ _ ho hl _
    exact fmade_zero h hB off cap l (by simp at ho; omega) (by simpa using hl)
  | succ k ih =>
    intro hk off cap l F W M h hB hF hl0 hcap hcap2 ho hl hroom
    have h10 : 2 ^ k ≤ 2 ^ 10 := Nat.pow_le_pow_right (by decide) (by omega)
    have e10 : (2 : Nat) ^ 10 = 1024 := rfl
    have hpos : 0 < 2 ^ k := Nat.pow_pos (by decide)
    have e2 : 2 ^ (k + 1) = 2 * 2 ^ k := by rw [Nat.pow_succ]; omega
    rw [e2] at hcap ho hroom ⊢
    exact fmade_step k (2 ^ k) rfl hpos (by omega) h hB hF off cap l hl0 hcap hcap2 ho hl hroom (ih (by omega))

end Go.Proofs.Ytacanmmkhbdmlaa
