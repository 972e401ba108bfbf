/-
  Proved: the statement CanonBeside, for every input.
-/
import Derived.Test.YtacanmmkhbdmlaaPHMadeK
import Derived.Test.YtacanmmkhbdmlaaPKAlive
import Derived.Test.YtacanmmkhbdmlaaPKUnf
import Derived.Test.YtacanmmkhbdmlaaPLawBase
import Derived.Test.YtacanmmkhbdmlaaRows
namespace Go.Proofs.Ytacanmmkhbdmlaa
set_option linter.unusedSimpArgs false
set_option linter.unusedVariables false
set_option maxHeartbeats 600000
open Go.ChangeShapes Go.WideShapes Go.ChangeAt Go.RowKit


set_option maxRecDepth 100000 in
theorem canonBeside_out (n a b : Int) (w : World) (h : n < 0 ∨ 5 < n) :
    Calls Try.prog 7 #[.int .i64 n, .int .u64 a, .int .u64 b] w fun e w' => e = .returned (.bool true) ∧ Keeps w w' := by
  have H := Lib.hid h
  clear h
  go_enter Try.func7, Try.ntmps7
  go_wp2_with (first | (go_at_call 34; refine (k_alive _).mono ?_; rintro e w1 ⟨rfl, hk⟩) | fail)
  all_goals first | (go_ret; exact ⟨rfl, by (repeat (first | with_reducible exact Keeps.refl _ | with_reducible assumption | with_reducible refine Keeps.alloc ?_ _ | with_reducible refine Keeps.drewN ?_ _ | with_reducible refine Keeps.drew ?_ | refine Keeps.setCell ?_ (by dsimp only; omega) _ | with_reducible refine Keeps.trans ?_ (by assumption)))⟩) | (exfalso; have := H.out; omega)

/-- Six edges in a block. -/
structure Arr (W : World) (A : Nat) (xs : Nat → Edge) : Prop where
  tg : ∀ j, j < 6 → W.cell? ⟨A, j * 2, none⟩ = some (.int .u8 (xs j).tag)
  end' : ∀ j, j < 6 → W.cell? ⟨A, j * 2 + 1, none⟩ = some (.int .u32 (xs j).to)
  frz : ∀ o, W.frozen? ⟨A, o, none⟩ = false
  lt : A < W.heap.size

theorem Arr.upd {W w' : World} {A : Nat} {xs : Nat → Edge} {G : Nat → Prop} (h : Arr W A xs) (hu : Upd G W w') (hn : ¬ G A) : Arr w' A xs :=
  ⟨fun j hj => hu.cellAt hn (h.tg j hj), fun j hj => hu.cellAt hn (h.end' j hj), fun o => (World.frozen?_of_block (a := ⟨A, o, none⟩) (hu.block A h.lt hn)).trans (h.frz o), by have := hu.size; have := h.lt; omega⟩

theorem Arr.keeps {W w' : World} {A : Nat} {xs : Nat → Edge} (h : Arr W A xs) (hk : Keeps W w') : Arr w' A xs := h.upd (Keeps.upd hk (fun _ => False)) (fun h => h)

theorem Arr.put {W : World} {A : Nat} {xs : Nat → Edge} (h : Arr W A xs) (f : Nat) (hf : f < 6) (p : Edge) : Arr ((W.setCell ⟨A, f * 2, none⟩ (.int .u8 p.tag)).setCell ⟨A, f * 2 + 1, none⟩ (.int .u32 p.to)) A (fun j => if j = f then p else xs j) := by
  have h0 := h.tg f hf
  have h1 := h.end' f hf
  refine ⟨fun j hj => ?_, fun j hj => ?_, fun o => ?_, ?_⟩
  · have hj0 := h.tg j hj
    by_cases e : j = f
    · subst e
      have n1 : j * 2 + 1 ≠ j * 2 := by omega
      simp [go_sem, h0]
    · have n1 : j * 2 ≠ f * 2 := by omega
      have n2 : j * 2 ≠ f * 2 + 1 := by omega
      simp [go_sem, hj0, e, n1, n2, n1.symm, n2.symm]
  · have hj1 := h.end' j hj
    by_cases e : j = f
    · subst e
      simp [go_sem, h1]
    · have n1 : j * 2 + 1 ≠ f * 2 := by omega
      have n2 : j * 2 + 1 ≠ f * 2 + 1 := by omega
      simp [go_sem, hj1, e, n1, n2, n1.symm, n2.symm]
  · simp [go_sem, h.frz o]
  · simpa using h.lt

theorem Arr.other {W : World} {A B : Nat} {xs : Nat → Edge} (h : Arr W A xs) (hn : A ≠ B) (o : Nat) (v : Value) : Arr (W.setCell ⟨B, o, none⟩ v) A xs :=
  h.upd ((Upd.refl (fun k => k = B) W).setCell (p := ⟨B, o, none⟩) (Or.inl rfl) v) (fun e => hn e)

theorem Arr.made (W : World) : Arr (W.alloc (.cells #[.int .u8 0, .int .u32 0, .int .u8 0, .int .u32 0, .int .u8 0, .int .u32 0, .int .u8 0, .int .u32 0, .int .u8 0, .int .u32 0, .int .u8 0, .int .u32 0] 58)) W.heap.size (fun _ => ⟨0, 0⟩) := by
  refine ⟨fun j hj => ?_, fun j hj => ?_, fun o => by simp [go_sem], by simp⟩
  all_goals
    have : j = 0 ∨ j = 1 ∨ j = 2 ∨ j = 3 ∨ j = 4 ∨ j = 5 := by omega
    rcases this with rfl | rfl | rfl | rfl | rfl | rfl <;> simp [go_sem]

/-- What the first loop holds. -/
structure Rows5 (F : Nat → Prop) (w4 wr : World) (sb k A : Nat) (bs cs : List Bool) (f : Nat) (M : St) (G : Nat → Prop) (xs ys : Nat → Edge) : Prop where
  rep : StoreRep G wr sb M
  sub : ∀ j, G j → F j ∨ A + 2 ≤ j
  upd : Upd F w4 wr
  x : Arr wr A xs
  y : Arr wr (A + 1) ys
  n : (0 : Int) + (k : Nat) = M.n
  room : M.room = 1000
  len : M.len ≤ 62 * ((f : Int) - 1)
  made : ∀ g : Nat, 1 ≤ g → g < f → MadeAt g M bs k 0 0 (xs g) ∧ MadeAt g M cs k 0 0 (ys g) ∧ (xs g).ok ∧ (ys g).ok

set_option maxRecDepth 100000 in
theorem canonBeside_in (k : Nat) (a b : Int) (w : World) (h : k ≤ 5) (ha : 0 ≤ a) (ha2 : a ≤ 18446744073709551615) (hb : 0 ≤ b) (hb2 : b ≤ 18446744073709551615) :
    Calls Try.prog 7 #[.int .i64 (k : Int), .int .u64 a, .int .u64 b] w fun e w' => e = .returned (.bool true) ∧ Keeps w w' := by
  have h6 : 2 ^ k ≤ 2 ^ 5 := Nat.pow_le_pow_right (by decide) h
  have e6 : (2 : Nat) ^ 5 = 32 := rfl
  rw [e6] at h6
  have H6 := Lib.hid h6
  have hpos := Lib.hid (Nat.pow_pos (n := k) (show 0 < 2 by decide))
  clear h6 e6
  go_enter Try.func7, Try.ntmps7
  go_wp2_with (first | (go_at_call 34; refine (k_alive _).mono ?_; rintro e w1 ⟨rfl, hk⟩) | fail)
  refine (store_new (k : Int) 1000 _ (by omega) (by omega) (by omega) (by omega)).mono ?_
  rintro e w2 ⟨sb, F, rfl, hk2, hF, hS⟩
  have HS := Lib.hid hS
  have HF := Lib.hid hF
  have z1 := hk.size
  have HK2 := Lib.hid (hk.trans hk2)
  clear hS hF hk2 hk
  go_wp2_with fail
  refine (bits_calls k (by omega) a ha ha2 _).mono ?_
  rintro e w3 ⟨bs, hbl, rfl, hB, hk3⟩
  have HB := Lib.hid hB
  have HK3 := Lib.hid hk3
  have HBL := Lib.hid hbl
  clear hB hk3 hbl
  go_wp2_with fail
  refine (bits_calls k (by omega) b hb hb2 _).mono ?_
  rintro e w4 ⟨cs, hcl, rfl, hC, hk4⟩
  have HC := Lib.hid hC
  have HK4 := Lib.hid hk4
  have HCL := Lib.hid hcl
  clear hC hk4 hcl
  have nFB : ¬ F w2.heap.size := fun hf => by have := HS.out.lt _ hf; omega
  have nFC : ¬ F w3.heap.size := fun hf => by have := HS.out.lt _ hf; have := HK3.out.size; omega
  have hB4 : BoolsAt w4 w2.heap.size bs := HB.out.keep (Keeps.upd HK4.out (fun _ => False)) (fun h => h)
  go_wp2_with fail
  have hRW : Rows5 F w4 ((w4.alloc (.cells #[.int .u8 0, .int .u32 0, .int .u8 0, .int .u32 0, .int .u8 0, .int .u32 0, .int .u8 0, .int .u32 0, .int .u8 0, .int .u32 0, .int .u8 0, .int .u32 0] 58)).alloc (.cells #[.int .u8 0, .int .u32 0, .int .u8 0, .int .u32 0, .int .u8 0, .int .u32 0, .int .u8 0, .int .u32 0, .int .u8 0, .int .u32 0, .int .u8 0, .int .u32 0] 58)) sb k w4.heap.size bs cs 1 (St.new (k : Int) 1000) F (fun _ => ⟨0, 0⟩) (fun _ => ⟨0, 0⟩) := by
    have hlt := HS.out.lt
    have s1 := HK3.out.size
    have s2 := HK4.out.size
    have hk2 := ((Keeps.refl w4).alloc (.cells #[.int .u8 0, .int .u32 0, .int .u8 0, .int .u32 0, .int .u8 0, .int .u32 0, .int .u8 0, .int .u32 0, .int .u8 0, .int .u32 0, .int .u8 0, .int .u32 0] 58)).alloc (.cells #[.int .u8 0, .int .u32 0, .int .u8 0, .int .u32 0, .int .u8 0, .int .u32 0, .int .u8 0, .int .u32 0, .int .u8 0, .int .u32 0, .int .u8 0, .int .u32 0] 58)
    have hy := Arr.made (w4.alloc (.cells #[.int .u8 0, .int .u32 0, .int .u8 0, .int .u32 0, .int .u8 0, .int .u32 0, .int .u8 0, .int .u32 0, .int .u8 0, .int .u32 0, .int .u8 0, .int .u32 0] 58))
    rw [World.size_alloc] at hy
    exact ⟨((HS.out.keeps HK3.out).keeps HK4.out).keeps hk2, fun j hj => .inl hj, Keeps.upd hk2 _, (Arr.made w4).keeps ((Keeps.refl _).alloc _), hy, by simp [St.new], rfl, by simp [St.new, St.len], fun g hg hg2 => by omega⟩
  have HRW := Lib.hid hRW
  clear hRW
  obtain ⟨W5, hW5⟩ : ∃ W5, W5 = ((w4.alloc (.cells #[.int .u8 0, .int .u32 0, .int .u8 0, .int .u32 0, .int .u8 0, .int .u32 0, .int .u8 0, .int .u32 0, .int .u8 0, .int .u32 0, .int .u8 0, .int .u32 0] 58)).alloc (.cells #[.int .u8 0, .int .u32 0, .int .u8 0, .int .u32 0, .int .u8 0, .int .u32 0, .int .u8 0, .int .u32 0, .int .u8 0, .int .u32 0, .int .u8 0, .int .u32 0] 58)) := ⟨_, rfl⟩
  rw [← hW5] at HRW ⊢
  clear hW5
  go_loopg [13] 5 (fun gk s13 wr => ∃ (f : Nat) (M : St) (G : Nat → Prop) (xs ys : Nat → Edge), f + gk = 6 ∧ 1 ≤ f ∧ s13 = .int .u8 (f : Int) ∧ Rows5 F w4 wr sb k w4.heap.size bs cs f M G xs ys)
  case atStart => exact ⟨1, _, _, _, _, rfl, by omega, rfl, HRW.out⟩
  case round =>
    obtain ⟨f, M, G, xs, ys, hfg, hf1, rfl, hR⟩ := hrel
    have HR := Lib.hid hR
    clear hR
    by_cases hf : f ≤ 5
    · have hB1 : BoolsAt wr w2.heap.size bs := (HB.out.keep (Keeps.upd HK4.out (fun _ => False)) (fun h => h)).keep HR.out.upd nFB
      have hC1 : BoolsAt wr w3.heap.size cs := HC.out.keep HR.out.upd nFC
      have s2 := HB.out.lt
      have s3 := HC.out.lt
      have s4 := HK4.out.size
      have s5 := HR.out.x.lt
      have nGB : ¬ G w2.heap.size := fun hf => by rcases HR.out.sub _ hf with q | q; exact nFB q; omega
      have nGC : ¬ G w3.heap.size := fun hf => by rcases HR.out.sub _ hf with q | q; exact nFC q; omega
      have hA : ¬ F w4.heap.size := fun hf => by have := HS.out.lt _ hf; have := HK3.out.size; omega
      have hA1 : ¬ F (w4.heap.size + 1) := fun hf => by have := HS.out.lt _ hf; have := HK3.out.size; omega
      have nGA : ¬ G w4.heap.size := fun hf => by rcases HR.out.sub _ hf with q | q; exact hA q; omega
      have nGA1 : ¬ G (w4.heap.size + 1) := fun hf => by rcases HR.out.sub _ hf with q | q; exact hA1 q; omega
      have hMl := HR.out.len
      have hMr := HR.out.room
      have hM1 := fun (W : World) (hW : Keeps wr W) => kmade_calls (f : Int) (by omega) k (by omega) 0 (2 ^ k) 0 G W M (HR.out.rep.keeps hW) (hB1.keep (Keeps.upd hW (fun _ => False)) (fun h => h)) nGB (by omega) (Nat.le_refl _) (by have := H6.out; omega) (by rw [HBL.out]; omega) HR.out.n (by have := H6.out; rw [hMr]; omega)
      have HM1 := Lib.hid hM1
      have HC1 := Lib.hid hC1
      clear hM1 hB1 hC1
      go_wp2_with fail
      refine (HM1.out _ (by (repeat (first | with_reducible exact Keeps.refl _ | with_reducible assumption | with_reducible refine Keeps.alloc ?_ _ | with_reducible refine Keeps.drewN ?_ _ | with_reducible refine Keeps.drew ?_ | refine Keeps.setCell ?_ (by dsimp only; omega) _ | with_reducible refine Keeps.trans ?_ (by assumption))))).mono ?_
      rintro e v1 ⟨p, M1, rfl, hp, hmp, hg1, hst1⟩
      have hst1' := hst1
      obtain ⟨⟨G1, r1, sub1⟩, u1⟩ := hst1'
      have t1 := u1.size
      have nG1B : ¬ G1 w3.heap.size := fun hf => by rcases sub1 _ hf with q | q; exact nGC q; omega
      have nG1A : ¬ G1 w4.heap.size := fun hf => by rcases sub1 _ hf with q | q; exact nGA q; omega
      have nG1A1 : ¬ G1 (w4.heap.size + 1) := fun hf => by rcases sub1 _ hf with q | q; exact nGA1 q; have := HR.out.y.lt; omega
      have nG1n : ¬ G1 v1.heap.size := fun hf => by have := r1.lt _ hf; omega
      have hg1l := hg1.len
      have hg1r := hg1.room
      have hn1 : (0 : Int) + (k : Nat) = M1.n := by rw [hg1.ext.n]; exact HR.out.n
      have hX1 := HR.out.x.upd u1 nGA
      have hY1 := HR.out.y.upd u1 nGA1
      have hM2 := fun (W : World) (hW : Keeps v1 W) => kmade_calls (f : Int) (by omega) k (by omega) 0 (2 ^ k) 0 G1 W M1 (r1.keeps hW) ((HC1.out.keep u1 nGC).keep (Keeps.upd hW (fun _ => False)) (fun h => h)) nG1B (by omega) (Nat.le_refl _) (by have := H6.out; omega) (by rw [HCL.out]; omega) hn1 (by have := H6.out; omega)
      have HM2 := Lib.hid hM2
      have HU1 := Lib.hid u1
      have SUB1 := Lib.hid sub1
      have HG1 := Lib.hid hg1
      have HMP := Lib.hid hmp
      have HP := Lib.hid hp
      have HR1 := Lib.hid r1
      have HX1 := Lib.hid hX1
      have HY1 := Lib.hid hY1
      clear hM2 u1 sub1 hg1 hmp hp r1 hst1 hX1 hY1
      go_wp2_with fail
      refine (HM2.out _ (by (repeat (first | with_reducible exact Keeps.refl _ | with_reducible assumption | with_reducible refine Keeps.alloc ?_ _ | with_reducible refine Keeps.drewN ?_ _ | with_reducible refine Keeps.drew ?_ | refine Keeps.setCell ?_ (by dsimp only; omega) _ | with_reducible refine Keeps.trans ?_ (by assumption))))).mono ?_
      rintro e v2 ⟨q, M2, rfl, hq, hmq, hg2, hst2⟩
      have x0 := hst2.cell nG1n (o := 0) (v := .int .u8 p.tag) (by simp)
      have x1 := hst2.cell nG1n (o := 1) (v := .int .u32 p.to) (by simp)
      obtain ⟨⟨G2, r2, sub2⟩, u2⟩ := hst2
      have t2 := u2.size
      simp only [World.size_alloc] at t2 sub2
      have hX2 := (HX1.out.keeps ((Keeps.refl _).alloc _)).upd u2 nG1A
      have hY2 := (HY1.out.keeps ((Keeps.refl _).alloc _)).upd u2 nG1A1
      have HX2 := Lib.hid hX2
      have HY2 := Lib.hid hY2
      have HU2 := Lib.hid u2
      have SUB2 := Lib.hid sub2
      have HG2 := Lib.hid hg2
      have HMQ := Lib.hid hmq
      have HQ := Lib.hid hq
      have HR2 := Lib.hid r2
      clear hX2 hY2 u2 sub2 hg2 hmq hq r2
      have cx0 := HX2.out.tg f (by omega)
      have cx1 := HX2.out.end' f (by omega)
      have cy0 := HY2.out.tg f (by omega)
      have cy1 := HY2.out.end' f (by omega)
      have fx := HX2.out.frz
      have fy := HY2.out.frz
      have f5 : (f : Int) < 6 := by omega
      have f0 : (0 : Int) ≤ (f : Int) := by omega
      have la := HX2.out.lt
      have lb := HY2.out.lt
      have lc : v1.heap.size < v2.heap.size := by omega
      have ld : v1.heap.size ≠ w4.heap.size := by have := HX1.out.lt; omega
      have le' : v1.heap.size ≠ w4.heap.size + 1 := by have := HY1.out.lt; omega
      go_wp2_with fail
      go_region
      go_wp2_with fail
      have hu1 : Upd F w4 v1 := HR.out.upd.trans (HU1.out.mono (fun j hj hg => by
        rcases HR.out.sub j hg with q | q
        · exact .inl q
        · exact .inr ⟨by omega, hj⟩))
      have hu2 : Upd F w4 v2 := (hu1.alloc _).trans (HU2.out.mono (fun j hj hg => by
        rcases SUB1.out j hg with q | q
        · rcases HR.out.sub j q with q | q
          · exact .inl q
          · exact .inr ⟨by omega, hj⟩
        · exact .inr ⟨by omega, hj⟩))
      have hsub : ∀ j, G2 j → F j ∨ w4.heap.size + 2 ≤ j := fun j hj => by
        rcases SUB2.out j hj with q | q
        · rcases SUB1.out j q with q | q
          · exact HR.out.sub j q
          · right; have := HR.out.y.lt; omega
        · right; have := HY1.out.lt; omega
      have nG2A : ¬ G2 w4.heap.size := fun hf => by rcases hsub _ hf with q | q; exact hA q; omega
      have nG2A1 : ¬ G2 (w4.heap.size + 1) := fun hf => by rcases hsub _ hf with q | q; exact hA1 q; omega
      go_roundg (gk - 1)
      case rel =>
        refine ⟨f + 1, M2, G2, (fun j => if j = f then p else xs j), (fun j => if j = f then q else ys j), by omega, by omega, by simp, ?_⟩
        have hg2l := HG2.out.len
        have hg2r := HG2.out.room
        have hg1l' := HG1.out.len
        have hg1r' := HG1.out.room
        have h6' := H6.out
        have hx3 := ((((HX2.out.put f (by omega) p).other (B := w4.heap.size + 1) (by omega) (f * 2) (.int .u8 q.tag)).other (B := w4.heap.size + 1) (by omega) (f * 2 + 1) (.int .u32 q.to)).keeps ((Keeps.refl _).alloc (.cells #[.int .u8 q.tag, .int .u32 q.to] 35))).keeps (Keeps.refl _).drew
        have hy3 := ((((HY2.out.other (B := w4.heap.size) (by omega) (f * 2) (.int .u8 p.tag)).other (B := w4.heap.size) (by omega) (f * 2 + 1) (.int .u32 p.to)).put f (by omega) q).keeps ((Keeps.refl _).alloc (.cells #[.int .u8 q.tag, .int .u32 q.to] 35))).keeps (Keeps.refl _).drew
        have hu3 := ((((((Upd.refl (fun k => k = w4.heap.size ∨ k = w4.heap.size + 1) v2).setCell (p := ⟨w4.heap.size, f * 2, none⟩) (Or.inl (Or.inl rfl)) (.int .u8 p.tag)).setCell (p := ⟨w4.heap.size, f * 2 + 1, none⟩) (Or.inl (Or.inl rfl)) (.int .u32 p.to)).setCell (p := ⟨w4.heap.size + 1, f * 2, none⟩) (Or.inl (Or.inr rfl)) (.int .u8 q.tag)).setCell (p := ⟨w4.heap.size + 1, f * 2 + 1, none⟩) (Or.inl (Or.inr rfl)) (.int .u32 q.to)).alloc (.cells #[.int .u8 q.tag, .int .u32 q.to] 35)).drew
        have hu4 := ((((((hu2.setCell (p := ⟨w4.heap.size, f * 2, none⟩) (Or.inr (Nat.le_refl _)) (.int .u8 p.tag)).setCell (p := ⟨w4.heap.size, f * 2 + 1, none⟩) (Or.inr (Nat.le_refl _)) (.int .u32 p.to)).setCell (p := ⟨w4.heap.size + 1, f * 2, none⟩) (Or.inr (Nat.le_succ _)) (.int .u8 q.tag)).setCell (p := ⟨w4.heap.size + 1, f * 2 + 1, none⟩) (Or.inr (Nat.le_succ _)) (.int .u32 q.to)).alloc (.cells #[.int .u8 q.tag, .int .u32 q.to] 35))).drew
        refine ⟨HR2.out.keep hu3 (fun j hj e => by rcases e with rfl | rfl; exact nG2A hj; exact nG2A1 hj), hsub, hu4, hx3, hy3, by rw [HG2.out.ext.n]; exact hn1, by rw [hg2r, hg1r', hMr], by push_cast; omega, fun g hg hg3 => ?_⟩
        by_cases e : g = f
        · subst e
          rw [if_pos rfl, if_pos rfl]
          exact ⟨HMP.out.ext HG2.out.ext HR1.out.wf (by omega), HMQ.out, HP.out, HQ.out⟩
        · rw [if_neg e, if_neg e]
          obtain ⟨a1, a2, a3, a4⟩ := HR.out.made g hg (by omega)
          exact ⟨(a1.ext HG1.out.ext HR.out.rep.wf (by omega)).ext HG2.out.ext HR1.out.wf (by omega), (a2.ext HG1.out.ext HR.out.rep.wf (by omega)).ext HG2.out.ext HR1.out.wf (by omega), a3, a4⟩
      case measure => omega
    · obtain rfl : f = 6 := by omega
      obtain ⟨W6, rfl⟩ : ∃ W6, W6 = wr := ⟨wr, rfl⟩
      obtain ⟨g0, hg0⟩ : ∃ g0, g0 = gk := ⟨_, rfl⟩
      have s2 := HB.out.lt
      have s3 := HC.out.lt
      have s4 := HK4.out.size
      have hKwr : Keeps w W6 := ((HK2.out.trans HK3.out).trans HK4.out).new HR.out.upd (fun j hj => by have := HF.out j hj; omega)
      have HKW := Lib.hid hKwr
      have HTB := Lib.hid (show TabAt W6 w2.heap.size 0 bs from fun i b hb => by rw [Nat.zero_add]; exact ((HB.out.keep (Keeps.upd HK4.out (fun _ => False)) (fun h => h)).keep HR.out.upd nFB).cell hb)
      have HTC := Lib.hid (show TabAt W6 w3.heap.size 0 cs from fun i b hb => by rw [Nat.zero_add]; exact (HC.out.keep HR.out.upd nFC).cell hb)
      obtain ⟨A, hA⟩ : ∃ A, A = w4.heap.size := ⟨_, rfl⟩
      rw [← hA] at HR ⊢
      clear hfg hf1 hf hA hKwr
      go_wp2_with fail
      go_loopg [18] 5 (fun gk s18 wr => ∃ f : Nat, f + gk = 6 ∧ 1 ≤ f ∧ s18 = .int .u8 (f : Int) ∧ Keeps W6 wr)
      case atStart => exact ⟨1, rfl, by omega, rfl, Keeps.refl _⟩
      case round =>
        obtain ⟨f, hfg, hf1, rfl, hkq⟩ := hrel
        by_cases hf : f ≤ 5
        · obtain ⟨m1, m2, m3, m4⟩ := HR.out.made f hf1 (by omega)
          have hn9 : M.n ≤ 9 := by have := HR.out.n; omega
          have hn := HR.out.n
          have hwf := HR.out.rep.wf
          have m1' := m1.1
          have m2' := m2.1
          rw [List.drop_zero, List.take_of_length_le (by rw [HBL.out]; omega)] at m1'
          rw [List.drop_zero, List.take_of_length_le (by rw [HCL.out]; omega)] at m2'
          have hx0 := (HR.out.x.keeps hkq).tg f (by omega)
          have hx1 := (HR.out.x.keeps hkq).end' f (by omega)
          have hy0 := (HR.out.y.keeps hkq).tg f (by omega)
          have hy1 := (HR.out.y.keeps hkq).end' f (by omega)
          have hf15 : 1 ≤ (f : Int) ∧ (f : Int) ≤ 5 := by omega
          obtain ⟨p, hp⟩ : ∃ p, p = xs f := ⟨_, rfl⟩
          obtain ⟨q, hq⟩ : ∃ q, q = ys f := ⟨_, rfl⟩
          rw [← hp] at m1' m3 hx0 hx1
          rw [← hq] at m2' m4 hy0 hy1
          have tw1 := twoK hwf hf15 m1' hn (Int.le_refl _) k (Nat.le_refl _)
          have tw2 := twoK hwf hf15 m2' hn (Int.le_refl _) k (Nat.le_refl _)
          have lp := lead_tag (m1'.leads hwf hf15 hn) hn9
          have lq := lead_tag (m2'.leads hwf hf15 hn) hn9
          have e1 : ((k + 1 : Nat) : Int) - 1 = (k : Int) := by omega
          have hUU := fun (e : Edge) (W : World) (hW : Keeps wr W) (he : e = p ∨ e = q) => unfK_calls (HR.out.rep.keeps (hkq.trans hW)) hn9 (f : Int) hf15 (k + 1) (by omega) e (by rcases he with rfl | rfl; exact m3; exact m4) (by rcases he with rfl | rfl; exact lp; exact lq)
          rw [e1] at hUU
          have hT1 := fun (W : World) (hW : Keeps wr W) => termK_calls (f : Int) hf15 k (by omega) 0 (2 ^ k) bs 0 W (HTB.out.keeps (hkq.trans hW)) HBL.out (Nat.le_refl _) (by have := H6.out; omega) (by omega) (by omega)
          have hT2 := fun (W : World) (hW : Keeps wr W) => termK_calls (f : Int) hf15 k (by omega) 0 (2 ^ k) cs 0 W (HTC.out.keeps (hkq.trans hW)) HCL.out (Nat.le_refl _) (by have := H6.out; omega) (by omega) (by omega)
          rw [← tw1] at hT1
          rw [← tw2] at hT2
          have hSM := fun (W : World) (hW : Keeps wr W) => same_calls (2 ^ k) (2 ^ k) W (HTB.out.keeps (hkq.trans hW)) (HTC.out.keeps (hkq.trans hW)) (by rw [HBL.out]; have := H6.out; omega) (by rw [HCL.out]; have := H6.out; omega)
          rw [HBL.out, HCL.out] at hSM
          have hsame : sameL bs cs = decide (p = q) := by
            by_cases hxy : p = q
            · rw [hxy] at m1'
              rw [sameL_iff.2 (IsT.inj hwf _ _ _ _ _ m1' m2')]
              exact (decide_eq_true hxy).symm
            · rw [decide_eq_false hxy]
              exact sameL_false.2 (fun hh => hxy (by rw [hh] at m1'; exact IsT.det hwf _ _ _ _ _ m1' m2'))
          rw [hsame] at hSM
          have heq : ∀ (W : World), (binOp .eql 35 (.agg #[.int .u8 p.tag, .int .u32 p.to]) (.agg #[.int .u8 q.tag, .int .u32 q.to])).run Try.prog W = .ok (.bool (decide (p = q))) W := fun W => by
            by_cases hxy : p = q
            · rw [decide_eq_true hxy]; exact eql_same p q hxy W
            · rw [decide_eq_false hxy]; exact eql_other p q hxy W
          obtain ⟨s1, hs1⟩ : ∃ s1, s1 = unfS (f : Int) M (k + 1) p := ⟨_, rfl⟩
          obtain ⟨s2', hs2⟩ : ∃ s2', s2' = unfS (f : Int) M (k + 1) q := ⟨_, rfl⟩
          have HUU : Hid (∀ (e : Edge) (s : ByteArray) (W : World), Keeps wr W → ((e = p ∧ s = s1) ∨ (e = q ∧ s = s2')) → Calls Try.prog 37 #[.pointer (some ⟨sb, 0, none⟩), .int .u8 (f : Int), .agg #[.int .u8 e.tag, .int .u32 e.to], .int .i64 (k : Int)] W fun r w' => r = .returned (.string s) ∧ Keeps W w') :=
            Lib.hid (fun e s W hW he => by
              rcases he with ⟨rfl, rfl⟩ | ⟨rfl, rfl⟩
              · rw [hs1]; exact hUU _ W hW (.inl rfl)
              · rw [hs2]; exact hUU _ W hW (.inr rfl))
          have HTT : Hid (∀ (B : Nat) (s : ByteArray) (W : World), Keeps wr W → ((B = w2.heap.size ∧ s = s1) ∨ (B = w3.heap.size ∧ s = s2')) → Calls Try.prog 38 #[.int .u8 (f : Int), .slice (some ⟨B, 0, none⟩) (2 ^ k) (2 ^ k), .int .i64 0] W fun r w' => r = .returned (.string s) ∧ Keeps W w') :=
            Lib.hid (fun B s W hW he => by
              rcases he with ⟨rfl, rfl⟩ | ⟨rfl, rfl⟩
              · rw [hs1]; exact hT1 W hW
              · rw [hs2]; exact hT2 W hW)
          have HKQ := Lib.hid hkq
          have f5 : (f : Int) < 6 := by omega
          have f0 : (0 : Int) ≤ (f : Int) := by omega
          obtain ⟨bb, hbb⟩ : ∃ bb, bb = decide (p = q) := ⟨_, rfl⟩
          rw [← hbb] at heq
          rw [← hbb] at hSM
          have HSM := Lib.hid hSM
          clear m1 m2 m1' m2' m3 m4 tw1 tw2 lp lq hUU hT1 hT2 hSM hs1 hs2 hp hq hwf hn hkq hsame hn9 e1 hbb hf15
          cases bb
          all_goals
            go_wp2_with fail
            have k0 := KWorld.cell (W0 := wr) hx0
            have k1 := KWorld.cell (W0 := wr) hx1
            have k2 := KWorld.cell (W0 := wr) hy0
            have k3 := KWorld.cell (W0 := wr) hy1
            refine wp_region_keeps wr (by kernel_rfl) (by kernel_rfl) (Keeps.refl _) ?_
            (repeat (go_big_quiet_step ((first | (go_at_call 36; with_reducible refine Calls.keepsK (HSM.out _ (KWorld.keep _))) | (go_at_call 37; with_reducible refine Calls.keepsK (HUU.out _ _ _ (KWorld.keep _) (by first | exact .inl ⟨rfl, rfl⟩ | exact .inr ⟨rfl, rfl⟩))) | (go_at_call 38; with_reducible refine Calls.keepsK (HTT.out _ _ _ (KWorld.keep _) (by first | exact .inl ⟨rfl, rfl⟩ | exact .inr ⟨rfl, rfl⟩)))))))
            refine wpQuiet_nil ?_
            rintro w9 ⟨⟨_, hk9⟩, rfl⟩
            try dsimp only
            go_wp2_with fail
            go_roundg (gk - 1)
            case rel => exact ⟨f + 1, by omega, by omega, by simp, HKQ.out.trans hk9⟩
            case measure => omega
        · obtain rfl : f = 6 := by omega
          have HKQ := Lib.hid hkq
          clear hfg hf1 hf hkq
          go_wp2_with fail
          go_ret
          exact ⟨rfl, HKW.out.trans HKQ.out⟩

theorem canonBeside_walk (n a b : Int) (w : World) (_ : (Lit.int .i64 n).wf = true) (ha : (Lit.int .u64 a).wf = true) (hb : (Lit.int .u64 b).wf = true) :
    Calls Try.prog 7 #[.int .i64 n, .int .u64 a, .int .u64 b] w fun e w' => e = .returned (.bool true) ∧ Keeps w w' := by
  by_cases h : n < 0 ∨ 5 < n
  · exact canonBeside_out n a b w h
  · obtain ⟨k, rfl⟩ : ∃ k : Nat, n = (k : Int) := ⟨n.toNat, by omega⟩
    have hmin : IntKind.u64.min = 0 := rfl
    have hmax : IntKind.u64.max = 18446744073709551615 := rfl
    simp only [Lit.wf, Bool.and_eq_true, decide_eq_true_eq, hmin, hmax] at ha hb
    exact canonBeside_in k a b w (by omega) ha.1 ha.2 hb.1 hb.2

set_option maxRecDepth 100000 in
theorem canonBeside_lifted (os : Os) (started : os.Started) (H : Type) (enc : TypeId × Value → H) :
    ReturnsInHanded {} Try.checked os 7 .any (Rows.canonBesideSpec.pre6 enc Try.prog Try.f7 Rows.canonBesideRow.domain false) (Rows.canonBesideSpec.post enc Try.prog Try.f7 false true false false) := by
  refine returnsInHanded_of_change (C := Try.checked) own started (by kernel_rfl) Try.func7
    (ChangeSpec.witness6 (enc := enc) (C := Try.checked) false ⟨#[], #[.int .i64 0, .int .u64 0, .int .u64 0], []⟩ 12 (by kernel_rfl) (by kernel_rfl) (by kernel_rfl) (by kernel_rfl)) ?_
  intro W base args ds gs before hval0 hW hcnd _
  have hval : ∀ (j : Nat) t v, Try.f7.params[j]? = some t → args[j]? = some v → Value.okWide Try.prog W .any base t v := hval0
  have hW' := hW
  obtain ⟨p, q, hA0, hV, rfl, hfz, hnd⟩ := hW
  have hA : DataW.TrodAll enc Try.prog W 0 (fun _ => true) true Try.f7.params.toList args.toList ds p := hA0
  rw [Try.params7] at hA hval
  have hAk := hA
  obtain ⟨v0, vs0, d0, ds0, p0, q0, hargs, rfl, rfl, h0, r0⟩ := trodAll_cons hA
  obtain ⟨v1, vs1, d1, ds1, p1, q1, rfl, rfl, rfl, h1, r1⟩ := trodAll_cons r0
  obtain ⟨v2, vs2, d2, ds2, p2, q2, rfl, rfl, rfl, h2, r2⟩ := trodAll_cons r1
  obtain ⟨rfl, rfl, rfl⟩ := trodAll_nil r2
  obtain rfl : args = #[v0, v1, v2] := by cases args; simp_all
  obtain ⟨rfl, rfl⟩ := trodVars_none hV
  obtain ⟨a0, rfl, rfl, rfl, w0⟩ := open_int Try.underlying3 (hval 0 3 v0 rfl rfl) h0
  obtain ⟨a1, rfl, rfl, rfl, w1⟩ := open_int Try.underlying22 (hval 1 22 v1 rfl rfl) h1
  obtain ⟨a2, rfl, rfl, rfl, w2⟩ := open_int Try.underlying22 (hval 2 22 v2 rfl rfl) h2
  clear hA0 hval0
  refine (canonBeside_walk a0 a1 a2 W w0 w1 w2).mono fun e W' ⟨he, bel⟩ => ?_
  subst he
  exact ⟨_, rfl, _, _, _, [], _, [], hW', trodAll_mk1 (shut_bool Try.underlying4 _), trodAll_below laidOut bel _ _ _ _ (by kernel_rfl) hAk, rfl, Below.frame bel _, fun h => by cases h⟩

theorem canonBeside_over : Rows.canonBesideRow.holds Try.pinned (OpenSpec.ofChange Rows.canonBesideSpec) :=
  OpenClaim.holds_of_wide 7 Try.f7 rfl rfl rfl rfl rfl rfl rfl ⟨rfl, rfl, rfl, rfl, rfl⟩ rfl rfl rfl rfl rfl (by kernel_rfl) Try.func7 (by kernel_rfl)
    (of_decide_eq_true (by kernel_rfl)) (by unfold Func.isWrapper; first | (rw [if_pos (by decide +kernel)]; kernel_rfl) | (rw [if_neg (by decide +kernel)]; exact ⟨rfl, rfl⟩))
    (fun os started H enc _ => canonBeside_lifted os started H enc)

theorem canonBeside_proved : Rows.CanonBesideSaid := canonBeside_over

end Go.Proofs.Ytacanmmkhbdmlaa
