/-
  Proved: the statement CanonSmall, for every input.
-/
import Derived.Test.YtiacdpoldgfpbaaPHMadeK
import Derived.Test.YtiacdpoldgfpbaaPHoldsX
import Derived.Test.YtiacdpoldgfpbaaPKAlive
import Derived.Test.YtiacdpoldgfpbaaPKUnf
import Derived.Test.YtiacdpoldgfpbaaPLawBase
import Derived.Test.YtiacdpoldgfpbaaPSmallA
import Derived.Test.YtiacdpoldgfpbaaPSwTerm
import Derived.Test.YtiacdpoldgfpbaaRows
namespace Go.Proofs.Ytiacdpoldgfpbaa
set_option linter.unusedSimpArgs false
set_option linter.unusedVariables false
set_option maxHeartbeats 600000
open Go.ChangeShapes Go.WideShapes Go.ChangeAt Go.RowKit


set_option maxRecDepth 100000 in
theorem canonSmall_out (n a : Int) (w : World) (h : n < 0 ∨ 6 < n) :
    Calls Try.prog 7 #[.int .i64 n, .int .u64 a] w fun e w' => e = .returned (.bool true) ∧ Keeps w w' := by
  have H := Lib.hid h
  clear h
  go_enter Try.func7, Try.ntmps7
  go_wp2_with (first | (go_at_call 35; refine (k_alive _).mono ?_; rintro e w1 ⟨rfl, hk⟩) | fail)
  all_goals first | (go_ret; exact ⟨rfl, by (repeat (first | with_reducible exact Keeps.refl _ | with_reducible assumption | with_reducible refine Keeps.alloc ?_ _ | with_reducible refine Keeps.drewN ?_ _ | with_reducible refine Keeps.drew ?_ | refine Keeps.setCell ?_ (by dsimp only; omega) _ | with_reducible refine Keeps.trans ?_ (by assumption)))⟩) | (exfalso; have := H.out; omega)

theorem ktabS {w : World} {B : Nat} {bs : List Bool} (h : BoolsAt w B bs) : TabAt w B 0 bs := fun i b hb => by
  rw [Nat.zero_add]
  exact h.cell hb

/-- How many nodes a table's term has. -/
def termN (f : Int) (k : Nat) (bs : List Bool) : Nat := (partsTo (termK f k bs 0) (termK f k bs 0).size).length

theorem termK_size {f : Int} (hf : 1 ≤ f ∧ f ≤ 5) {k : Nat} (hk : k ≤ 6) (bs : List Bool) (l : Int) : (termK f k bs l).size ≤ 1048576 := by
  have q2 : 2 ^ (k + 1) ≤ 2 ^ 7 := Nat.pow_le_pow_right (by decide) (by omega)
  have q3 : 2 ^ k ≤ 2 ^ 6 := Nat.pow_le_pow_right (by decide) (by omega)
  have q4 : (2 : Nat) ^ 7 = 128 := rfl
  have q5 : (2 : Nat) ^ 6 = 64 := rfl
  have h1 := termB_size k bs l
  have h2 := termZ_size k bs l
  have h3 := termC_size (k + 1) k bs l
  have h4 := termQ_size (k + 1) k bs l
  have h5 := termT_size (k + 1) k bs l
  rcases form_cases hf with rfl | rfl | rfl | rfl | rfl
  · show (termB k bs l).size ≤ _; omega
  · show (termZ k bs l).size ≤ _; omega
  · show (termC (k + 1) k bs l).size ≤ _; omega
  · show (termQ (k + 1) k bs l).size ≤ _; omega
  · show (termT (k + 1) k bs l).size ≤ _; omega

set_option maxRecDepth 100000 in
theorem rsize17_calls {B : Nat} (f : Int) (hf : 1 ≤ f ∧ f ≤ 5) (k : Nat) (hk : k ≤ 6) (cap : Nat) (bs : List Bool) (w : World) (h : TabAt w B 0 bs) (hl : bs.length = 2 ^ k) (hc : 2 ^ k ≤ cap) (hc2 : cap ≤ 4096) :
    Calls Try.prog 40 #[.int .u8 f, .slice (some ⟨B, 0, none⟩) (2 ^ k) cap] w fun e w' => e = .returned (.int .i64 (termN f k bs)) ∧ Keeps w w' := by
  have hs := termK_size hf hk bs 0
  have hT := fun (W : World) (hW : Keeps w W) => termK_calls f hf k (by omega) 0 cap bs 0 W (h.keeps hW) hl hc hc2 (by omega) (by omega)
  obtain ⟨c, hcc⟩ : ∃ c, c = termN f k bs := ⟨_, rfl⟩
  have hP := fun (W : World) => parts_calls (termK f k bs 0) W hs
  unfold termN at hcc
  rw [show (termN f k bs : Nat) = c by rw [hcc]; rfl]
  rw [← hcc] at hP
  obtain ⟨s, hss⟩ : ∃ s, s = termK f k bs 0 := ⟨_, rfl⟩
  rw [← hss] at hT hP
  have HT := Lib.hid hT
  have HP := Lib.hid hP
  clear hT hP hs hcc hss h hl hc hc2 hf hk
  go_enter Try.func40, Try.ntmps40
  go_wp2_with (first | (go_at_call 80; refine (HT.out _ (by (repeat (first | with_reducible exact Keeps.refl _ | with_reducible assumption | with_reducible refine Keeps.alloc ?_ _ | with_reducible refine Keeps.drewN ?_ _ | with_reducible refine Keeps.drew ?_ | refine Keeps.setCell ?_ (by dsimp only; omega) _ | with_reducible refine Keeps.trans ?_ (by assumption))))).mono ?_; rintro e w1 ⟨rfl, hk1⟩) | (go_at_call 79; refine (HP.out _).mono ?_; rintro e w2 ⟨pa, pcap, rfl, hk2⟩) | fail)
  go_ret
  exact ⟨rfl, by (repeat (first | with_reducible exact Keeps.refl _ | with_reducible assumption | with_reducible refine Keeps.alloc ?_ _ | with_reducible refine Keeps.drewN ?_ _ | with_reducible refine Keeps.drew ?_ | refine Keeps.setCell ?_ (by dsimp only; omega) _ | with_reducible refine Keeps.trans ?_ (by assumption)))⟩

/-- Six numbers in a block. -/
structure ArrI (W : World) (A : Nat) (zs : Nat → Int) : Prop where
  at' : ∀ j, j < 6 → W.cell? ⟨A, j, none⟩ = some (.int .i64 (zs j))
  frz : ∀ o, W.frozen? ⟨A, o, none⟩ = false
  lt : A < W.heap.size

theorem ArrI.upd {W w' : World} {A : Nat} {zs : Nat → Int} {G : Nat → Prop} (h : ArrI W A zs) (hu : Upd G W w') (hn : ¬ G A) : ArrI w' A zs :=
  ⟨fun j hj => hu.cellAt hn (h.at' j hj), fun o => (World.frozen?_of_block (a := ⟨A, o, none⟩) (hu.block A h.lt hn)).trans (h.frz o), by have := hu.size; have := h.lt; omega⟩

theorem ArrI.keeps {W w' : World} {A : Nat} {zs : Nat → Int} (h : ArrI W A zs) (hk : Keeps W w') : ArrI w' A zs := h.upd (Keeps.upd hk (fun _ => False)) (fun h => h)

theorem ArrI.put {W : World} {A : Nat} {zs : Nat → Int} (h : ArrI W A zs) (f : Nat) (hf : f < 6) (p : Int) : ArrI (W.setCell ⟨A, f, none⟩ (.int .i64 p)) A (fun j => if j = f then p else zs j) := by
  have h0 := h.at' f hf
  refine ⟨fun j hj => ?_, fun o => ?_, ?_⟩
  · have hj0 := h.at' j hj
    by_cases e : j = f
    · subst e
      simp [go_sem, h0]
    · simp [go_sem, hj0, e]
  · simp [go_sem, h.frz o]
  · simpa using h.lt

theorem ArrI.made (W : World) : ArrI (W.alloc (.cells #[.int .i64 0, .int .i64 0, .int .i64 0, .int .i64 0, .int .i64 0, .int .i64 0] 76)) W.heap.size (fun _ => 0) := by
  refine ⟨fun j hj => ?_, fun o => by simp [go_sem], by simp⟩
  have : j = 0 ∨ j = 1 ∨ j = 2 ∨ j = 3 ∨ j = 4 ∨ j = 5 := by omega
  rcases this with rfl | rfl | rfl | rfl | rfl | rfl <;> simp [go_sem]

/-- What the loop holds. -/
structure RowsS (F : Nat → Prop) (w4 wr : World) (sb k A : Nat) (bs : List Bool) (f : Nat) (M : St) (G : Nat → Prop) (xs : Nat → Edge) (zs : Nat → Int) : Prop where
  rep : StoreRep G wr sb M
  sub : ∀ j, G j → F j ∨ A + 1 ≤ j
  upd : Upd F w4 wr
  z : ArrI wr A zs
  n : (0 : Int) + (k : Nat) = M.n
  room : M.room = 2000
  len : M.len ≤ 63 * ((f : Int) - 1)
  made : ∀ g : Nat, 1 ≤ g → g < f → MadeAt g M bs k 0 0 (xs g) ∧ (xs g).ok ∧ zs g = (termN g k bs : Int)

/-- A made edge reaches as many nodes as its term has. -/
theorem made_count {f : Int} {F : Nat → Prop} {w : World} {sb k : Nat} {M : St} {bs : List Bool} {x : Edge} (r : StoreRep F w sb M) (hf : 1 ≤ f ∧ f ≤ 5) (hk : k ≤ 6) (hn : (0 : Int) + (k : Nat) = M.n) (hl : bs.length = 2 ^ k) (hm : MadeAt f M bs k 0 0 x) (hx : x.ok) :
    IsT f M k bs 0 x ∧ (reachL M.cs [x.to]).length = termN f k bs ∧ mayC M f x 0 = 0 := by
  have m := hm.1
  rw [List.drop_zero, List.take_of_length_le (by omega)] at m
  have hld := m.leads r.wf hf hn
  have hat : At f M x 0 (k + 1) := ⟨hld, hx.2.1, by push_cast; omega⟩
  refine ⟨m, ?_, ?_⟩
  · rw [← parts_count (r.fine f (by omega)) (k + 1) x 0 hat, twoK r.wf hf m hn (Int.le_refl _) k (Nat.le_refl _)]
    rfl
  · unfold mayC
    have hb : isFormB f = true := by rcases form_cases hf with rfl | rfl | rfl | rfl | rfl <;> rfl
    rw [if_neg (by rw [hb]; simp), if_neg (by omega), if_neg (by rw [hld]; simp)]

set_option maxRecDepth 100000 in
set_option maxHeartbeats 1000000 in
theorem canonSmall_in (k : Nat) (a : Int) (w : World) (h : k ≤ 6) (ha : 0 ≤ a) (ha2 : a ≤ 18446744073709551615) :
    Calls Try.prog 7 #[.int .i64 (k : Int), .int .u64 a] w fun e w' => e = .returned (.bool true) ∧ Keeps w w' := by
  have h6 : 2 ^ k ≤ 2 ^ 6 := Nat.pow_le_pow_right (by decide) h
  have e6 : (2 : Nat) ^ 6 = 64 := rfl
  rw [e6] at h6
  have H6 := Lib.hid h6
  have hpos := Lib.hid (Nat.pow_pos (n := k) (show 0 < 2 by decide))
  clear h6 e6
  go_enter Try.func7, Try.ntmps7
  go_wp2_with (first | (go_at_call 35; refine (k_alive _).mono ?_; rintro e w1 ⟨rfl, hk⟩) | fail)
  refine (store_new (k : Int) 2000 _ (by omega) (by omega) (by omega) (by omega)).mono ?_
  rintro e w2 ⟨sb, F, rfl, hk2, hF, hS⟩
  have HS := Lib.hid hS
  have HF := Lib.hid hF
  have z1 := hk.size
  have HK2 := Lib.hid (hk.trans hk2)
  clear hS hF hk2 hk
  go_wp2_with fail
  refine (bits_calls k (by omega) a ha ha2 _).mono ?_
  rintro e w3 ⟨bs, hbl, rfl, hB, hk3⟩
  have HB := Lib.hid hB
  have HK3 := Lib.hid hk3
  have HBL := Lib.hid hbl
  clear hB hk3 hbl
  have nFB : ¬ F w2.heap.size := fun hf => by have := HS.out.lt _ hf; omega
  go_wp2_with fail
  have hRW : RowsS F w3 (w3.alloc (.cells #[.int .i64 0, .int .i64 0, .int .i64 0, .int .i64 0, .int .i64 0, .int .i64 0] 76)) sb k w3.heap.size bs 1 (St.new (k : Int) 2000) F (fun _ => ⟨0, 0⟩) (fun _ => 0) := by
    have hk2 := (Keeps.refl w3).alloc (.cells #[.int .i64 0, .int .i64 0, .int .i64 0, .int .i64 0, .int .i64 0, .int .i64 0] 76)
    exact ⟨(HS.out.keeps HK3.out).keeps hk2, fun j hj => .inl hj, Keeps.upd hk2 _, ArrI.made w3, by simp [St.new], rfl, by simp [St.new, St.len], fun g hg hg2 => by omega⟩
  have HRW := Lib.hid hRW
  clear hRW
  obtain ⟨W5, hW5⟩ : ∃ W5, W5 = w3.alloc (.cells #[.int .i64 0, .int .i64 0, .int .i64 0, .int .i64 0, .int .i64 0, .int .i64 0] 76) := ⟨_, rfl⟩
  rw [← hW5] at HRW ⊢
  clear hW5
  go_loopg [9] 5 (fun gk s9 wr => ∃ (f : Nat) (M : St) (G : Nat → Prop) (xs : Nat → Edge) (zs : Nat → Int), f + gk = 6 ∧ 1 ≤ f ∧ s9 = .int .u8 (f : Int) ∧ RowsS F w3 wr sb k w3.heap.size bs f M G xs zs)
  case atStart => exact ⟨1, _, _, _, _, rfl, by omega, rfl, HRW.out⟩
  case round =>
    obtain ⟨f, M, G, xs, zs, hfg, hf1, rfl, hR⟩ := hrel
    have HR := Lib.hid hR
    clear hR
    have hA : ¬ F w3.heap.size := fun hf => by have := HS.out.lt _ hf; have := HK3.out.size; omega
    have s2 := HB.out.lt
    by_cases hf : f ≤ 5
    · have hB1 : BoolsAt wr w2.heap.size bs := HB.out.keep HR.out.upd nFB
      have nGB : ¬ G w2.heap.size := fun hf => by rcases HR.out.sub _ hf with q | q; exact nFB q; omega
      have nGA : ¬ G w3.heap.size := fun hf => by rcases HR.out.sub _ hf with q | q; exact hA q; omega
      have hMl := HR.out.len
      have hMr := HR.out.room
      have hM1 := fun (W : World) (hW : Keeps wr W) => kmade_calls (f : Int) (by omega) k (by omega) 0 (2 ^ k) 0 G W M (HR.out.rep.keeps hW) (hB1.keep (Keeps.upd hW (fun _ => False)) (fun h => h)) nGB (by omega) (Nat.le_refl _) (by have := H6.out; omega) (by rw [HBL.out]; omega) HR.out.n (by have := H6.out; rw [hMr]; omega)
      have HM1 := Lib.hid hM1
      have HB1 := Lib.hid hB1
      clear hM1 hB1
      go_wp2_with fail
      refine (HM1.out _ (by (repeat (first | with_reducible exact Keeps.refl _ | with_reducible assumption | with_reducible refine Keeps.alloc ?_ _ | with_reducible refine Keeps.drewN ?_ _ | with_reducible refine Keeps.drew ?_ | refine Keeps.setCell ?_ (by dsimp only; omega) _ | with_reducible refine Keeps.trans ?_ (by assumption))))).mono ?_
      rintro e v1 ⟨p, M1, rfl, hp, hmp, hg1, hst1⟩
      have hst1' := hst1
      obtain ⟨⟨G1, r1, sub1⟩, u1⟩ := hst1'
      have t1 := u1.size
      have nG1A : ¬ G1 w3.heap.size := fun hf => by rcases sub1 _ hf with q | q; exact nGA q; have := HR.out.z.lt; omega
      have nG1n : ¬ G1 v1.heap.size := fun hf => by have := r1.lt _ hf; omega
      have hg1l := hg1.len
      have hg1r := hg1.room
      have hn1 : (0 : Int) + (k : Nat) = M1.n := by rw [hg1.ext.n]; exact HR.out.n
      have hZ1 := HR.out.z.upd u1 nGA
      obtain ⟨c1, c2, c3⟩ := made_count r1 (by omega) h hn1 HBL.out hmp hp
      have hSZ := fun (W : World) (hW : Keeps v1 W) => csize_calls (r1.keeps hW) (f : Int) p 0 hp
      rw [c3] at hSZ
      simp only [if_true] at hSZ
      rw [c2] at hSZ
      have hRS := fun (W : World) (hW : Keeps v1 W) => rsize17_calls (f : Int) (by omega) k h (2 ^ k) bs W (ktabS ((HB1.out.keep u1 nGB).keep (Keeps.upd hW (fun _ => False)) (fun h => h))) HBL.out (Nat.le_refl _) (by have := H6.out; omega)
      obtain ⟨z, hz⟩ : ∃ z : Nat, z = termN (f : Int) k bs := ⟨_, rfl⟩
      rw [← hz] at hSZ hRS
      have HSZ := Lib.hid hSZ
      have HRS := Lib.hid hRS
      have HZ := Lib.hid hz
      have HU1 := Lib.hid u1
      have SUB1 := Lib.hid sub1
      have HG1 := Lib.hid hg1
      have HMP := Lib.hid hmp
      have HP := Lib.hid hp
      have HR1 := Lib.hid r1
      have HZ1 := Lib.hid hZ1
      clear hSZ hRS hz u1 sub1 hg1 hmp hp r1 hst1 hZ1 c1 c2 c3
      have cz := HZ1.out.at' f (by omega)
      have fz := HZ1.out.frz f
      have lz := HZ1.out.lt
      have f5 : (f : Int) < 6 := by omega
      have f0 : (0 : Int) ≤ (f : Int) := by omega
      go_wp2_with (first | (go_at_call 39; refine (HSZ.out _ (by (repeat (first | with_reducible exact Keeps.refl _ | with_reducible assumption | with_reducible refine Keeps.alloc ?_ _ | with_reducible refine Keeps.drewN ?_ _ | with_reducible refine Keeps.drew ?_ | refine Keeps.setCell ?_ (by dsimp only; omega) _ | with_reducible refine Keeps.trans ?_ (by assumption))))).mono ?_; rintro e v2 ⟨rfl, hk5⟩; have hkv : Keeps v1 v2 := (by (repeat (first | with_reducible exact Keeps.refl _ | with_reducible assumption | with_reducible refine Keeps.alloc ?_ _ | with_reducible refine Keeps.drewN ?_ _ | with_reducible refine Keeps.drew ?_ | refine Keeps.setCell ?_ (by dsimp only; omega) _ | with_reducible refine Keeps.trans ?_ (by assumption))))) | (go_at_call 40; refine (HRS.out _ (by (repeat (first | with_reducible exact Keeps.refl _ | with_reducible assumption | with_reducible refine Keeps.alloc ?_ _ | with_reducible refine Keeps.drewN ?_ _ | with_reducible refine Keeps.drew ?_ | refine Keeps.setCell ?_ (by dsimp only; omega) _ | with_reducible refine Keeps.trans ?_ (by assumption))))).mono ?_; rintro e v3 ⟨rfl, hk6⟩; have hkv3 : Keeps v1 v3 := (by (repeat (first | with_reducible exact Keeps.refl _ | with_reducible assumption | with_reducible refine Keeps.alloc ?_ _ | with_reducible refine Keeps.drewN ?_ _ | with_reducible refine Keeps.drew ?_ | refine Keeps.setCell ?_ (by dsimp only; omega) _ | with_reducible refine Keeps.trans ?_ (by assumption)))); have cz3 := hkv3.cell cz; have fz3 := hkv3.frz lz fz) | fail)
      have hZ3 := HZ1.out.keeps hkv3
      have lz3 := hZ3.lt
      have hu1 : Upd F w3 v1 := HR.out.upd.trans (HU1.out.mono (fun j hj hg => by
        rcases HR.out.sub j hg with q | q
        · exact .inl q
        · exact .inr ⟨by omega, hj⟩))
      have hsub : ∀ j, G1 j → F j ∨ w3.heap.size + 1 ≤ j := fun j hj => by
        rcases SUB1.out j hj with q | q
        · exact HR.out.sub j q
        · right; have := HR.out.z.lt; omega
      go_roundg (gk - 1)
      case rel =>
        have hzz := hZ3.put f (by omega) (z : Int)
        have hu3 := (Upd.refl (fun k => k = w3.heap.size) v3).setCell (p := ⟨w3.heap.size, f, none⟩) (Or.inl rfl) (.int .i64 (z : Int))
        have hu4 := (Upd.trans' hu1 (Keeps.upd hkv3 F)).setCell (p := ⟨w3.heap.size, f, none⟩) (Or.inr (Nat.le_refl _)) (.int .i64 (z : Int))
        refine ⟨f + 1, M1, G1, (fun j => if j = f then p else xs j), (fun j => if j = f then (z : Int) else zs j), by omega, by omega, by simp, (HR1.out.keeps hkv3).keep hu3 (fun j hj e => by cases e; exact nG1A hj), hsub, hu4, hzz, hn1, by rw [hg1r, hMr], ?_, fun g hg hg3 => ?_⟩
        · have := H6.out
          push_cast
          omega
        · by_cases e : g = f
          · subst e
            rw [if_pos rfl, if_pos rfl]
            exact ⟨HMP.out, HP.out, by rw [HZ.out]⟩
          · rw [if_neg e, if_neg e]
            obtain ⟨a1, a2, a3⟩ := HR.out.made g hg (by omega)
            exact ⟨a1.ext HG1.out.ext HR.out.rep.wf (by omega), a2, a3⟩
      case measure => omega
    · obtain rfl : f = 6 := by omega
      obtain ⟨m1, o1, e1⟩ := HR.out.made 1 (by omega) (by omega)
      obtain ⟨m2, o2, e2⟩ := HR.out.made 2 (by omega) (by omega)
      obtain ⟨m3, o3, e3⟩ := HR.out.made 3 (by omega) (by omega)
      obtain ⟨m4, o4, e4⟩ := HR.out.made 4 (by omega) (by omega)
      obtain ⟨m5, o5, e5⟩ := HR.out.made 5 (by omega) (by omega)
      have hn := HR.out.n
      have hwf := HR.out.rep.wf
      obtain ⟨i1, c1, -⟩ := made_count HR.out.rep (f := (1 : Nat)) (by omega) h hn HBL.out m1 o1
      obtain ⟨i2, c2, -⟩ := made_count HR.out.rep (f := (2 : Nat)) (by omega) h hn HBL.out m2 o2
      obtain ⟨i3, c3, -⟩ := made_count HR.out.rep (f := (3 : Nat)) (by omega) h hn HBL.out m3 o3
      obtain ⟨i4, c4, -⟩ := made_count HR.out.rep (f := (4 : Nat)) (by omega) h hn HBL.out m4 o4
      obtain ⟨i5, c5, -⟩ := made_count HR.out.rep (f := (5 : Nat)) (by omega) h hn HBL.out m5 o5
      have s31 := small_one hwf (.inl rfl) i3 i1 hn
      have s51 := small_one hwf (.inr rfl) i5 i1 hn
      have s42 := small_two hwf i4 i2 hn
      have s52 := small_tz hwf i5 i2 hn
      rw [c3, c1] at s31
      rw [c5, c1] at s51
      rw [c4, c2] at s42
      rw [c5, c2] at s52
      have z1 := HR.out.z.at' 1 (by omega)
      have z2 := HR.out.z.at' 2 (by omega)
      have z3 := HR.out.z.at' 3 (by omega)
      have z4 := HR.out.z.at' 4 (by omega)
      have z5 := HR.out.z.at' 5 (by omega)
      rw [e1] at z1
      rw [e2] at z2
      rw [e3] at z3
      rw [e4] at z4
      rw [e5] at z5
      obtain ⟨n1, h1⟩ : ∃ n, n = termN (1 : Nat) k bs := ⟨_, rfl⟩
      obtain ⟨n2, h2⟩ : ∃ n, n = termN (2 : Nat) k bs := ⟨_, rfl⟩
      obtain ⟨n3, h3⟩ : ∃ n, n = termN (3 : Nat) k bs := ⟨_, rfl⟩
      obtain ⟨n4, h4⟩ : ∃ n, n = termN (4 : Nat) k bs := ⟨_, rfl⟩
      obtain ⟨n5, h5⟩ : ∃ n, n = termN (5 : Nat) k bs := ⟨_, rfl⟩
      rw [← h1] at z1 s31 s51
      rw [← h2] at z2 s42 s52
      rw [← h3] at z3 s31
      rw [← h4] at z4 s42
      rw [← h5] at z5 s51 s52
      have b1 : ((n3 : Int) ≤ (n1 : Int)) := by omega
      have b2 : ((n4 : Int) ≤ (n2 : Int)) := by omega
      have b3 : ((n5 : Int) ≤ (n1 : Int)) := by omega
      have b4 : ((n5 : Int) ≤ (n2 : Int)) := by omega
      have hKwr : Keeps w wr := (HK2.out.trans HK3.out).new HR.out.upd (fun j hj => by have := HF.out j hj; omega)
      have HKW := Lib.hid hKwr
      clear hKwr h1 h2 h3 h4 h5 c1 c2 c3 c4 c5 i1 i2 i3 i4 i5 m1 m2 m3 m4 m5 o1 o2 o3 o4 o5 e1 e2 e3 e4 e5 hwf hn
      go_wp2_with fail
      go_ret
      exact ⟨rfl, HKW.out⟩

theorem canonSmall_walk (n a : Int) (w : World) (_ : (Lit.int .i64 n).wf = true) (ha : (Lit.int .u64 a).wf = true) :
    Calls Try.prog 7 #[.int .i64 n, .int .u64 a] w fun e w' => e = .returned (.bool true) ∧ Keeps w w' := by
  by_cases h : n < 0 ∨ 6 < n
  · exact canonSmall_out n a w h
  · obtain ⟨k, rfl⟩ : ∃ k : Nat, n = (k : Int) := ⟨n.toNat, by omega⟩
    have hmin : IntKind.u64.min = 0 := rfl
    have hmax : IntKind.u64.max = 18446744073709551615 := rfl
    simp only [Lit.wf, Bool.and_eq_true, decide_eq_true_eq, hmin, hmax] at ha
    exact canonSmall_in k a w (by omega) ha.1 ha.2

set_option maxRecDepth 100000 in
theorem canonSmall_lifted (os : Os) (started : os.Started) (H : Type) (enc : TypeId × Value → H) :
    ReturnsInHanded {} Try.checked os 7 .any (Rows.canonSmallSpec.pre6 enc Try.prog Try.f7 Rows.canonSmallRow.domain false) (Rows.canonSmallSpec.post enc Try.prog Try.f7 false true false false) := by
  refine returnsInHanded_of_change (C := Try.checked) own started (by kernel_rfl) Try.func7
    (ChangeSpec.witness6 (enc := enc) (C := Try.checked) false ⟨#[], #[.int .i64 0, .int .u64 0], []⟩ 12 (by kernel_rfl) (by kernel_rfl) (by kernel_rfl) (by kernel_rfl)) ?_
  intro W base args ds gs before hval0 hW hcnd _
  have hval : ∀ (j : Nat) t v, Try.f7.params[j]? = some t → args[j]? = some v → Value.okWide Try.prog W .any base t v := hval0
  have hW' := hW
  obtain ⟨p, q, hA0, hV, rfl, hfz, hnd⟩ := hW
  have hA : DataW.TrodAll enc Try.prog W 0 (fun _ => true) true Try.f7.params.toList args.toList ds p := hA0
  rw [Try.params7] at hA hval
  have hAk := hA
  obtain ⟨v0, vs0, d0, ds0, p0, q0, hargs, rfl, rfl, h0, r0⟩ := trodAll_cons hA
  obtain ⟨v1, vs1, d1, ds1, p1, q1, rfl, rfl, rfl, h1, r1⟩ := trodAll_cons r0
  obtain ⟨rfl, rfl, rfl⟩ := trodAll_nil r1
  obtain rfl : args = #[v0, v1] := by cases args; simp_all
  obtain ⟨rfl, rfl⟩ := trodVars_none hV
  obtain ⟨a0, rfl, rfl, rfl, w0⟩ := open_int Try.underlying3 (hval 0 3 v0 rfl rfl) h0
  obtain ⟨a1, rfl, rfl, rfl, w1⟩ := open_int Try.underlying72 (hval 1 72 v1 rfl rfl) h1
  clear hA0 hval0
  refine (canonSmall_walk a0 a1 W w0 w1).mono fun e W' ⟨he, bel⟩ => ?_
  subst he
  exact ⟨_, rfl, _, _, _, [], _, [], hW', trodAll_mk1 (shut_bool Try.underlying4 _), trodAll_below laidOut bel _ _ _ _ (by kernel_rfl) hAk, rfl, Below.frame bel _, fun h => by cases h⟩

theorem canonSmall_over : Rows.canonSmallRow.holds Try.pinned (OpenSpec.ofChange Rows.canonSmallSpec) :=
  OpenClaim.holds_of_wide 7 Try.f7 rfl rfl rfl rfl rfl rfl rfl ⟨rfl, rfl, rfl, rfl, rfl⟩ rfl rfl rfl rfl rfl (by kernel_rfl) Try.func7 (by kernel_rfl)
    (of_decide_eq_true (by kernel_rfl)) (by unfold Func.isWrapper; first | (rw [if_pos (by decide +kernel)]; kernel_rfl) | (rw [if_neg (by decide +kernel)]; exact ⟨rfl, rfl⟩))
    (fun os started H enc _ => canonSmall_lifted os started H enc)

theorem canonSmall_proved : Rows.CanonSmallSaid := canonSmall_over

end Go.Proofs.Ytiacdpoldgfpbaa
