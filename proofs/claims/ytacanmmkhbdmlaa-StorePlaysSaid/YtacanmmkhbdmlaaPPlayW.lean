/-
  The walk of ramagelaw11.play.
-/
import Derived.Test.YtacanmmkhbdmlaaPBuiltA
import Derived.Test.YtacanmmkhbdmlaaPLawBase
import Derived.Test.YtacanmmkhbdmlaaPRSweep
import Derived.Test.YtacanmmkhbdmlaaPSSweep
namespace Go.Proofs.Ytacanmmkhbdmlaa
set_option linter.unusedSimpArgs false
set_option linter.unusedVariables false
set_option maxHeartbeats 600000
open Go.RowKit

theorem IsEdges.upd {F : Nat → Prop} {w W : World} {b len : Nat} {es : List Edge} (h : IsEdges w (some ⟨b, 0, none⟩) len es) (hu : Upd F w W) (hb : ¬ F b) : IsEdges W (some ⟨b, 0, none⟩) len es :=
  ⟨h.1, fun i e he => by
    obtain ⟨h1, b', off, h2, h3, h4⟩ := h.2 i e he
    cases h2
    exact ⟨h1, b, 0, rfl, hu.cellAt hb h3, hu.cellAt hb h4⟩⟩

theorem reachL_few {F : Nat → Prop} {w : World} {sb : Nat} {M : St} (h : StoreRep F w sb M) (rs : List Int) : (reachL M.cs rs).length ≤ 1048576 := by
  have h1 : (reachL M.cs rs).length ≤ (idsL M.cs).length := nodup_len (rising_nodup (reachL_rising _ _)) (fun x hx => idsL_mem.2 (mem_reachL.1 hx).some)
  have h2 : (idsL M.cs).length ≤ M.cs.length := by
    unfold idsL
    rw [idsFrom_len]
    exact List.length_filter_le _ _
  obtain ⟨⟨ab, ib, ts, Fa, Fi, _, q2, _⟩, _⟩ := h
  have := q2.few
  omega

/-- Behind an act: both stores, one state. -/
def Played (w0 : World) (sb mb : Nat) (M : St) (e : Ending) (w' : World) : Prop :=
  e = .returned (.bool true) ∧ ∃ M' L', Both w0 w' sb mb M' L' ∧ M'.n = M.n ∧ M'.room = M.room

set_option maxRecDepth 100000 in
theorem play_find {w0 w : World} {sb mb : Nat} {M : St} {L : List (Int × Rec)} (h : Both w0 w sb mb M L) (k : Int) (hk0 : 0 ≤ k) (hk1 : k ≤ 255) (r : Rec) (hr : r.ok) (h4 : ¬ k % 7 = 4) (h5 : ¬ k % 7 = 5) (h6 : ¬ k % 7 = 6) :
    Calls Try.prog 23 #[.pointer (some ⟨sb, 0, none⟩), .pointer (some ⟨mb, 0, none⟩), .agg #[.int .u8 k, .int .u8 r.form, .int .u8 r.top, .int .u8 r.bot, .int .u8 r.lo.tag, .int .u32 r.lo.to, .int .u8 r.hi.tag, .int .u32 r.hi.to]] w (Played w0 sb mb M) := by
  obtain ⟨⟨F, G, q1, q2, q3, q4, q5⟩, q6⟩ := h
  have HS := Lib.hid (fun (W : World) (hW : Keeps w W) => store_find (q1.keeps hW) r hr)
  have Q1 := Lib.hid q1
  have Q2 := Lib.hid q2
  have Q3 := Lib.hid q3
  have Q4 := Lib.hid q4
  have Q5 := Lib.hid q5
  have Q6 := Lib.hid q6
  obtain ⟨er0, er1⟩ := findErr_range M r
  have e4 : (k % 7 == 4) = false := by simp [h4]
  have e5 : (k % 7 == 5) = false := by simp [h5]
  have e6 : (k % 7 == 6) = false := by simp [h6]
  clear q1 q2 q3 q4 q5 q6 h4 h5 h6
  go_enter Try.func23, Try.ntmps23
  go_wp2_with fail
  obtain ⟨W1, hW1⟩ : ∃ W1, (w.alloc (.cells #[.int .u8 k, .int .u8 r.form, .int .u8 r.top, .int .u8 r.bot, .int .u8 r.lo.tag, .int .u32 r.lo.to, .int .u8 r.hi.tag, .int .u32 r.hi.to] 52)).alloc (.cells #[.int .u8 r.lo.tag, .int .u32 r.lo.to, .int .u8 r.hi.tag, .int .u32 r.hi.to] 35) = W1 := ⟨_, rfl⟩
  have hk1 : Keeps w W1 := by rw [← hW1]; exact ((Keeps.refl w).alloc _).alloc _
  have b1 : W1.cell? ⟨w.heap.size, 1, none⟩ = some (.int .u8 r.form) := by rw [← hW1]; simp [go_sem]
  have b2 : W1.cell? ⟨w.heap.size, 2, none⟩ = some (.int .u8 r.top) := by rw [← hW1]; simp [go_sem]
  have b3 : W1.cell? ⟨w.heap.size, 3, none⟩ = some (.int .u8 r.bot) := by rw [← hW1]; simp [go_sem]
  have b4 : W1.cell? ⟨w.heap.size, 4, none⟩ = some (.int .u8 r.lo.tag) := by rw [← hW1]; simp [go_sem]
  have b5 : W1.cell? ⟨w.heap.size, 5, none⟩ = some (.int .u32 r.lo.to) := by rw [← hW1]; simp [go_sem]
  have b6 : W1.cell? ⟨w.heap.size, 6, none⟩ = some (.int .u8 r.hi.tag) := by rw [← hW1]; simp [go_sem]
  have b7 : W1.cell? ⟨w.heap.size, 7, none⟩ = some (.int .u32 r.hi.to) := by rw [← hW1]; simp [go_sem]
  rw [hW1]
  clear hW1
  have nF : ¬ F w.heap.size := fun hf => by have := Q1.out.lt _ hf; omega
  refine (HS.out W1 hk1).mono ?_
  rintro e w2 ⟨rfl, hu, hS2⟩
  have c1 := hu.cellAt nF b1
  have c2 := hu.cellAt nF b2
  have c3 := hu.cellAt nF b3
  have c4 := hu.cellAt nF b4
  have c5 := hu.cellAt nF b5
  have c6 := hu.cellAt nF b6
  have c7 := hu.cellAt nF b7
  clear b1 b2 b3 b4 b5 b6 b7 nF
  have HF := Lib.hid (ref_find ((Q2.out.keeps hk1).keep hu (fun k hk hf => Q3.out k hf hk)) r hr)
  have HU := Lib.hid hu
  have HS2 := Lib.hid hS2
  have HK1 := Lib.hid hk1
  clear hu hS2 hk1
  go_wp2_with fail
  refine HF.out.mono ?_
  rintro e w3 ⟨rfl, hu3, hS3⟩
  have hB := Both.step (Q1.out.keeps HK1.out) (Q2.out.keeps HK1.out) Q3.out Q4.out Q5.out (Q6.out.trans HK1.out) HU.out HS2.out (Keeps.refl _) hu3 hS3
  have HB := Lib.hid hB
  clear hu3 hS3 hB
  have hn := findSt_n M r
  have hro := findSt_room M r
  have HN := Lib.hid hn
  have HRO := Lib.hid hro
  clear hn hro
  go_wp2
  go_ret
  exact ⟨rfl, _, _, HB.out, HN.out, HRO.out⟩

set_option maxRecDepth 100000 in
theorem play_sweep {w0 w : World} {sb mb : Nat} {M : St} {L : List (Int × Rec)} (h : Both w0 w sb mb M L) (k : Int) (hk0 : 0 ≤ k) (hk1 : k ≤ 255) (r : Rec) (hr : r.ok) (hq : k % 7 = 6) :
    Calls Try.prog 23 #[.pointer (some ⟨sb, 0, none⟩), .pointer (some ⟨mb, 0, none⟩), .agg #[.int .u8 k, .int .u8 r.form, .int .u8 r.top, .int .u8 r.bot, .int .u8 r.lo.tag, .int .u32 r.lo.to, .int .u8 r.hi.tag, .int .u32 r.hi.to]] w (Played w0 sb mb M) := by
  obtain ⟨⟨F, G, q1, q2, q3, q4, q5⟩, q6⟩ := h
  have Q1 := Lib.hid q1
  have Q2 := Lib.hid q2
  have Q3 := Lib.hid q3
  have Q4 := Lib.hid q4
  have Q5 := Lib.hid q5
  have Q6 := Lib.hid q6
  have e4 : (k % 7 == 4) = false := by simp [hq]
  have e5 : (k % 7 == 5) = false := by simp [hq]
  have e6 : (k % 7 == 6) = true := by simp [hq]
  clear q1 q2 q3 q4 q5 q6 hq
  go_enter Try.func23, Try.ntmps23
  go_wp2_with fail
  obtain ⟨W1, hW1⟩ : ∃ W1, (w.alloc (.cells #[.int .u8 k, .int .u8 r.form, .int .u8 r.top, .int .u8 r.bot, .int .u8 r.lo.tag, .int .u32 r.lo.to, .int .u8 r.hi.tag, .int .u32 r.hi.to] 52)).alloc (.cells #[.int .u8 r.lo.tag, .int .u32 r.lo.to, .int .u8 r.hi.tag, .int .u32 r.hi.to] 35) = W1 := ⟨_, rfl⟩
  have hk1 : Keeps w W1 := by rw [← hW1]; exact ((Keeps.refl w).alloc _).alloc _
  have b1 : W1.cell? ⟨w.heap.size, 1, none⟩ = some (.int .u8 r.form) := by rw [← hW1]; simp [go_sem]
  have b2 : W1.cell? ⟨w.heap.size, 2, none⟩ = some (.int .u8 r.top) := by rw [← hW1]; simp [go_sem]
  have b3 : W1.cell? ⟨w.heap.size, 3, none⟩ = some (.int .u8 r.bot) := by rw [← hW1]; simp [go_sem]
  have b4 : W1.cell? ⟨w.heap.size, 4, none⟩ = some (.int .u8 r.lo.tag) := by rw [← hW1]; simp [go_sem]
  have b5 : W1.cell? ⟨w.heap.size, 5, none⟩ = some (.int .u32 r.lo.to) := by rw [← hW1]; simp [go_sem]
  have b6 : W1.cell? ⟨w.heap.size, 6, none⟩ = some (.int .u8 r.hi.tag) := by rw [← hW1]; simp [go_sem]
  have b7 : W1.cell? ⟨w.heap.size, 7, none⟩ = some (.int .u32 r.hi.to) := by rw [← hW1]; simp [go_sem]
  have hes0 : IsEdges W1 (some ⟨w.heap.size + 1, 0, none⟩) 2 [r.lo, r.hi] := by
    refine ⟨rfl, fun i e hi => ?_⟩
    rcases i with _ | _ | i
    · cases hi
      exact ⟨hr.lo, _, _, rfl, by rw [← hW1]; simp [go_sem], by rw [← hW1]; simp [go_sem]⟩
    · cases hi
      exact ⟨hr.hi, _, _, rfl, by rw [← hW1]; simp [go_sem], by rw [← hW1]; simp [go_sem]⟩
    · simp at hi
  have HES := Lib.hid hes0
  rw [hW1]
  clear hW1 hes0
  have hes : IsEdges W1 (some ⟨w.heap.size + 1, 0, none⟩) 2 [r.lo, r.hi] := HES.out
  have nF : ∀ j, w.heap.size ≤ j → ¬ F j := fun j hj hf => by have := Q1.out.lt _ hf; omega
  have HES1 := Lib.hid hes
  refine (store_sweep (Q1.out.keeps hk1) _ 2 2 [r.lo, r.hi] hes (by omega)).mono ?_
  rintro e w2 ⟨he, hu, hS2⟩
  obtain ⟨gl, hgl⟩ : ∃ gl : Int, gl = ((goneL M ([r.lo, r.hi].map Edge.to)).length : Int) := ⟨_, rfl⟩
  rw [← hgl] at he
  subst he
  have HGL := Lib.hid hgl
  clear hgl
  have egl : (gl == gl) = true := by simp
  have hes2 : IsEdges w2 (some ⟨w.heap.size + 1, 0, none⟩) 2 [r.lo, r.hi] := hes.upd hu (nF _ (by omega))
  have HF := Lib.hid (ref_sweep ((Q2.out.keeps hk1).keep hu (fun k hk hf => Q3.out k hf hk)) (some ⟨w.heap.size + 1, 0, none⟩) 2 2 [r.lo, r.hi] hes2 (by omega) (reachL_few (Q1.out.keeps hk1) _))
  have HU := Lib.hid hu
  have HS2 := Lib.hid hS2
  have HK1 := Lib.hid hk1
  clear hu hS2 hk1 hes hes2
  go_wp2_with fail
  refine HF.out.mono ?_
  rintro e w3 ⟨he, hu3, L', hS3⟩
  rw [← HGL.out] at he
  subst he
  have hB := Both.step (Q1.out.keeps HK1.out) (Q2.out.keeps HK1.out) Q3.out Q4.out Q5.out (Q6.out.trans HK1.out) HU.out HS2.out (Keeps.refl _) hu3 hS3
  have HB := Lib.hid hB
  clear hu3 hS3 hB
  go_wp2
  go_ret
  exact ⟨rfl, _, _, HB.out, rfl, rfl⟩

set_option maxRecDepth 100000 in
theorem play_has {w0 w : World} {sb mb : Nat} {M : St} {L : List (Int × Rec)} (h : Both w0 w sb mb M L) (k : Int) (hk0 : 0 ≤ k) (hk1 : k ≤ 255) (r : Rec) (hr : r.ok) (hq : k % 7 = 4) :
    Calls Try.prog 23 #[.pointer (some ⟨sb, 0, none⟩), .pointer (some ⟨mb, 0, none⟩), .agg #[.int .u8 k, .int .u8 r.form, .int .u8 r.top, .int .u8 r.bot, .int .u8 r.lo.tag, .int .u32 r.lo.to, .int .u8 r.hi.tag, .int .u32 r.hi.to]] w (Played w0 sb mb M) := by
  obtain ⟨⟨F, G, q1, q2, q3, q4, q5⟩, q6⟩ := h
  have HS := Lib.hid (fun (W : World) (hW : Keeps w W) => store_has (q1.keeps hW) r hr)
  have HM := Lib.hid (fun (W : World) (hW : Keeps w W) => ref_has (q2.keeps hW) r)
  have hB : ∀ W, Keeps w W → Both w0 W sb mb M L := fun W hW => (show Both w0 w sb mb M L from ⟨⟨F, G, q1, q2, q3, q4, q5⟩, q6⟩).keeps hW
  have HB := Lib.hid hB
  have e4 : (k % 7 == 4) = true := by simp [hq]
  have hid : (M.idOf r = none) ∨ ∃ id, M.idOf r = some id ∧ 0 < id := by
    cases hi : M.idOf r with
    | none => exact .inl rfl
    | some id => exact .inr ⟨id, rfl, by have := (look_some (idOf_look hi)).1; omega⟩
  clear q1 q2 q3 q4 q5 q6 hq hB
  rcases hid with hi | ⟨id, hi, hi2⟩
  all_goals
    rw [hi] at HS HM
    clear hi
    simp only [Option.getD_none, Option.getD_some, Option.isSome_none, Option.isSome_some] at HS HM
    go_enter Try.func23, Try.ntmps23
    go_wp2_with fail
    refine (HS.out _ (by (repeat (first | with_reducible exact Keeps.refl _ | with_reducible assumption | with_reducible refine Keeps.alloc ?_ _ | with_reducible refine Keeps.drewN ?_ _ | with_reducible refine Keeps.drew ?_ | refine Keeps.setCell ?_ (by dsimp only; omega) _ | with_reducible refine Keeps.trans ?_ (by assumption))))).mono ?_
    rintro e w2 ⟨rfl, hk2⟩
    have hkw : Keeps w w2 := (show Keeps w _ by (repeat (first | with_reducible exact Keeps.refl _ | with_reducible assumption | with_reducible refine Keeps.alloc ?_ _ | with_reducible refine Keeps.drewN ?_ _ | with_reducible refine Keeps.drew ?_ | refine Keeps.setCell ?_ (by dsimp only; omega) _ | with_reducible refine Keeps.trans ?_ (by assumption)))).trans hk2
    have hb := hk2
    have b1 := hb.cell (a := ⟨w.heap.size, 1, none⟩) (v := .int .u8 r.form) (by simp [go_sem])
    have b2 := hb.cell (a := ⟨w.heap.size, 2, none⟩) (v := .int .u8 r.top) (by simp [go_sem])
    have b3 := hb.cell (a := ⟨w.heap.size, 3, none⟩) (v := .int .u8 r.bot) (by simp [go_sem])
    have b4 := hb.cell (a := ⟨w.heap.size, 4, none⟩) (v := .int .u8 r.lo.tag) (by simp [go_sem])
    have b5 := hb.cell (a := ⟨w.heap.size, 5, none⟩) (v := .int .u32 r.lo.to) (by simp [go_sem])
    have b6 := hb.cell (a := ⟨w.heap.size, 6, none⟩) (v := .int .u8 r.hi.tag) (by simp [go_sem])
    have b7 := hb.cell (a := ⟨w.heap.size, 7, none⟩) (v := .int .u32 r.hi.to) (by simp [go_sem])
    clear hb
    go_wp2_with fail
    refine (HM.out _ hkw).mono ?_
    rintro e w3 ⟨rfl, hk3⟩
    have HKW := Lib.hid (hkw.trans hk3)
    clear hk2 hk3 hkw
    go_wp2
    go_ret
    exact ⟨rfl, M, L, HB.out _ HKW.out, rfl, rfl⟩

set_option maxRecDepth 100000 in
theorem play_get {w0 w : World} {sb mb : Nat} {M : St} {L : List (Int × Rec)} (h : Both w0 w sb mb M L) (k : Int) (hk0 : 0 ≤ k) (hk1 : k ≤ 255) (r : Rec) (hr : r.ok) (hq : k % 7 = 5) :
    Calls Try.prog 23 #[.pointer (some ⟨sb, 0, none⟩), .pointer (some ⟨mb, 0, none⟩), .agg #[.int .u8 k, .int .u8 r.form, .int .u8 r.top, .int .u8 r.bot, .int .u8 r.lo.tag, .int .u32 r.lo.to, .int .u8 r.hi.tag, .int .u32 r.hi.to]] w (Played w0 sb mb M) := by
  obtain ⟨⟨F, G, q1, q2, q3, q4, q5⟩, q6⟩ := h
  have HS := Lib.hid (fun (W : World) (hW : Keeps w W) => store_get (q1.keeps hW) r.lo.to hr.lo.2.2)
  have HM := Lib.hid (fun (W : World) (hW : Keeps w W) => ref_at (q2.keeps hW) r.lo.to)
  have hB : ∀ W, Keeps w W → Both w0 W sb mb M L := fun W hW => (show Both w0 w sb mb M L from ⟨⟨F, G, q1, q2, q3, q4, q5⟩, q6⟩).keeps hW
  have HB := Lib.hid hB
  have hat := atI_look q2 r.lo.to
  obtain ⟨la, lcap, l0, hla⟩ := q2.cell
  have hle := q2.le
  have HLA := Lib.hid hla
  have e4 : (k % 7 == 4) = false := by simp [hq]
  have e5 : (k % 7 == 5) = true := by simp [hq]
  clear q1 q2 q3 q4 q5 q6 hq hB hla
  rcases hat with ⟨x, hl, D, hLD, hq, hDl, hat⟩ | ⟨hl, hq, hat⟩
  · clear hq
    rw [hat] at HM
    rw [hl] at HS
    simp only [grec, gsome] at HS
    obtain ⟨lb, rfl, hFlb, hlv⟩ := HLA.out (by omega)
    have n0 : w.cell? ⟨lb, D * 8 + 1, none⟩ = some (.int .u8 x.form) := (hlv D _ hLD 1 (by omega)).trans rfl
    have n1 : w.cell? ⟨lb, D * 8 + 2, none⟩ = some (.int .u8 x.top) := (hlv D _ hLD 2 (by omega)).trans rfl
    have n2 : w.cell? ⟨lb, D * 8 + 3, none⟩ = some (.int .u8 x.bot) := (hlv D _ hLD 3 (by omega)).trans rfl
    have n3 : w.cell? ⟨lb, D * 8 + 4, none⟩ = some (.int .u8 x.lo.tag) := (hlv D _ hLD 4 (by omega)).trans rfl
    have n4 : w.cell? ⟨lb, D * 8 + 5, none⟩ = some (.int .u32 x.lo.to) := (hlv D _ hLD 5 (by omega)).trans rfl
    have n5 : w.cell? ⟨lb, D * 8 + 6, none⟩ = some (.int .u8 x.hi.tag) := (hlv D _ hLD 6 (by omega)).trans rfl
    have n6 : w.cell? ⟨lb, D * 8 + 7, none⟩ = some (.int .u32 x.hi.to) := (hlv D _ hLD 7 (by omega)).trans rfl
    clear hlv hLD hat hl
    go_enter Try.func23, Try.ntmps23
    go_wp2_with fail
    refine (HS.out _ (by (repeat (first | with_reducible exact Keeps.refl _ | with_reducible assumption | with_reducible refine Keeps.alloc ?_ _ | with_reducible refine Keeps.drewN ?_ _ | with_reducible refine Keeps.drew ?_ | refine Keeps.setCell ?_ (by dsimp only; omega) _ | with_reducible refine Keeps.trans ?_ (by assumption))))).mono ?_
    rintro e w2 ⟨rfl, hk2⟩
    have hkw : Keeps w w2 := (show Keeps w _ by (repeat (first | with_reducible exact Keeps.refl _ | with_reducible assumption | with_reducible refine Keeps.alloc ?_ _ | with_reducible refine Keeps.drewN ?_ _ | with_reducible refine Keeps.drew ?_ | refine Keeps.setCell ?_ (by dsimp only; omega) _ | with_reducible refine Keeps.trans ?_ (by assumption)))).trans hk2
    have hb := hk2
    have b0 := hb.cell (a := ⟨w.heap.size, 0, none⟩) (v := .int .u8 k) (by simp [go_sem])
    have b1 := hb.cell (a := ⟨w.heap.size, 1, none⟩) (v := .int .u8 r.form) (by simp [go_sem])
    have b2 := hb.cell (a := ⟨w.heap.size, 2, none⟩) (v := .int .u8 r.top) (by simp [go_sem])
    have b3 := hb.cell (a := ⟨w.heap.size, 3, none⟩) (v := .int .u8 r.bot) (by simp [go_sem])
    have b4 := hb.cell (a := ⟨w.heap.size, 4, none⟩) (v := .int .u8 r.lo.tag) (by simp [go_sem])
    have b5 := hb.cell (a := ⟨w.heap.size, 5, none⟩) (v := .int .u32 r.lo.to) (by simp [go_sem])
    have b6 := hb.cell (a := ⟨w.heap.size, 6, none⟩) (v := .int .u8 r.hi.tag) (by simp [go_sem])
    have b7 := hb.cell (a := ⟨w.heap.size, 7, none⟩) (v := .int .u32 r.hi.to) (by simp [go_sem])
    clear hb
    have l0 := hkw.cell l0
    have n0 := hkw.cell n0
    have n1 := hkw.cell n1
    have n2 := hkw.cell n2
    have n3 := hkw.cell n3
    have n4 := hkw.cell n4
    have n5 := hkw.cell n5
    have n6 := hkw.cell n6
    have HKW := Lib.hid hkw
    have hmb : mb < w2.heap.size := lt_of_cell l0
    have hbx : w.heap.size < w2.heap.size := lt_of_cell b0
    have hlb : lb < w2.heap.size := lt_of_cell n0
    clear hkw hk2
    go_wp2_with fail
    refine (HM.out _ (by have hkw := HKW.out; (repeat (first | with_reducible exact Keeps.refl _ | with_reducible assumption | with_reducible refine Keeps.alloc ?_ _ | with_reducible refine Keeps.drewN ?_ _ | with_reducible refine Keeps.drew ?_ | refine Keeps.setCell ?_ (by dsimp only; omega) _ | with_reducible refine Keeps.trans ?_ (by assumption))))).mono ?_
    rintro e w3 ⟨rfl, rfl⟩
    have hq : ∀ W, (binOp .eql 50 (.agg #[.int .u8 x.form, .int .u8 x.top, .int .u8 x.bot, .int .u8 x.lo.tag, .int .u32 x.lo.to, .int .u8 x.hi.tag, .int .u32 x.hi.to]) (.agg #[.int .u8 x.form, .int .u8 x.top, .int .u8 x.bot, .int .u8 x.lo.tag, .int .u32 x.lo.to, .int .u8 x.hi.tag, .int .u32 x.hi.to])).run Try.prog W = .ok (.bool true) W := fun W => by rw [run_eql_rec]; simp
    have hmx : max (D : Int) 0 = (D : Int) := by omega
    have hmy : ¬ ((0 : Int) > (D : Int)) := by omega
    have hmz : (if (0 : Int) > (D : Int) then (0 : Int) else (D : Int)) = (D : Int) := if_neg hmy
    have hDL : D < L.length := hDl
    have hD0 : ¬ ((D : Int) < 0) := by omega
    have hD1 : decide ((D : Int) < 0) = false := by simp [hD0]
    go_wp2_with fail
    go_quiet (fail)
    go_wp2
    go_ret
    refine ⟨rfl, M, L, HB.out _ (by have hkw := HKW.out; (repeat (first | with_reducible exact Keeps.refl _ | with_reducible assumption | with_reducible refine Keeps.alloc ?_ _ | with_reducible refine Keeps.drewN ?_ _ | with_reducible refine Keeps.drew ?_ | refine Keeps.setCell ?_ (by dsimp only; omega) _ | with_reducible refine Keeps.trans ?_ (by assumption)))), rfl, rfl⟩
  · clear hq
    rw [hat] at HM
    rw [hl] at HS
    simp only [grec, gsome] at HS
    simp only [Rec.zero] at HS
    clear hat hl
    go_enter Try.func23, Try.ntmps23
    go_wp2_with fail
    refine (HS.out _ (by (repeat (first | with_reducible exact Keeps.refl _ | with_reducible assumption | with_reducible refine Keeps.alloc ?_ _ | with_reducible refine Keeps.drewN ?_ _ | with_reducible refine Keeps.drew ?_ | refine Keeps.setCell ?_ (by dsimp only; omega) _ | with_reducible refine Keeps.trans ?_ (by assumption))))).mono ?_
    rintro e w2 ⟨rfl, hk2⟩
    have hkw : Keeps w w2 := (show Keeps w _ by (repeat (first | with_reducible exact Keeps.refl _ | with_reducible assumption | with_reducible refine Keeps.alloc ?_ _ | with_reducible refine Keeps.drewN ?_ _ | with_reducible refine Keeps.drew ?_ | refine Keeps.setCell ?_ (by dsimp only; omega) _ | with_reducible refine Keeps.trans ?_ (by assumption)))).trans hk2
    have hb := hk2
    have b0 := hb.cell (a := ⟨w.heap.size, 0, none⟩) (v := .int .u8 k) (by simp [go_sem])
    have b5 := hb.cell (a := ⟨w.heap.size, 5, none⟩) (v := .int .u32 r.lo.to) (by simp [go_sem])
    clear hb
    have HKW := Lib.hid hkw
    have hbx : w.heap.size < w2.heap.size := lt_of_cell b0
    clear hkw hk2
    go_wp2_with fail
    refine (HM.out _ (by have hkw := HKW.out; (repeat (first | with_reducible exact Keeps.refl _ | with_reducible assumption | with_reducible refine Keeps.alloc ?_ _ | with_reducible refine Keeps.drewN ?_ _ | with_reducible refine Keeps.drew ?_ | refine Keeps.setCell ?_ (by dsimp only; omega) _ | with_reducible refine Keeps.trans ?_ (by assumption))))).mono ?_
    rintro e w3 ⟨rfl, rfl⟩
    have hq : ∀ W, (binOp .eql 50 (.agg #[.int .u8 Rec.zero.form, .int .u8 Rec.zero.top, .int .u8 Rec.zero.bot, .int .u8 Rec.zero.lo.tag, .int .u32 Rec.zero.lo.to, .int .u8 Rec.zero.hi.tag, .int .u32 Rec.zero.hi.to]) (.agg #[.int .u8 Rec.zero.form, .int .u8 Rec.zero.top, .int .u8 Rec.zero.bot, .int .u8 Rec.zero.lo.tag, .int .u32 Rec.zero.lo.to, .int .u8 Rec.zero.hi.tag, .int .u32 Rec.zero.hi.to])).run Try.prog W = .ok (.bool true) W := fun W => by rw [run_eql_rec]; simp
    simp only [Rec.zero] at hq
    go_wp2_with fail
    go_quiet (fail)
    go_wp2
    go_ret
    refine ⟨rfl, M, L, HB.out _ (by have hkw := HKW.out; (repeat (first | with_reducible exact Keeps.refl _ | with_reducible assumption | with_reducible refine Keeps.alloc ?_ _ | with_reducible refine Keeps.drewN ?_ _ | with_reducible refine Keeps.drew ?_ | refine Keeps.setCell ?_ (by dsimp only; omega) _ | with_reducible refine Keeps.trans ?_ (by assumption)))), rfl, rfl⟩

end Go.Proofs.Ytacanmmkhbdmlaa
