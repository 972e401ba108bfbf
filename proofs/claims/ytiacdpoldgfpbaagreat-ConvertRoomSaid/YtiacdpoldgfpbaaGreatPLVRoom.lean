/-
  Proved: the statement ConvertRoom, for every input.
-/
import Derived.Test.YtiacdpoldgfpbaaGreatPConvA0
import Derived.Test.YtiacdpoldgfpbaaGreatPRoomB
import Derived.Test.YtiacdpoldgfpbaaGreatPRoomW
import Derived.Test.YtiacdpoldgfpbaaGreatPSmallN
import Derived.Test.YtiacdpoldgfpbaaGreatRows
namespace Go.Proofs.YtiacdpoldgfpbaaGreat
set_option linter.unusedSimpArgs false
set_option linter.unusedVariables false
set_option maxHeartbeats 600000
open Go.ChangeShapes Go.WideShapes Go.ChangeAt Go.RowKit

theorem room_left {f g : Int} {Ms M' : St} {V' : List (Edge × Int)} {x y : Edge} {k s : Nat} {m : Int} (hw : Ms.wf) (hn : Ms.n = (k : Int)) (hx : x.ok) (hc : Conv f g Ms [] x 0 M' V' y 6) (hm : Ms.room - Ms.len = m) (hR : (reachL Ms.cs [x.to]).length = s) (hld : Ms.leads f x 0 = true) :
    m < 2 * ((2 ^ k : Nat) : Int) ∧ m < 6 * (k : Int) * ((s : Int) + 1) := by
  obtain ⟨-, -, hfull⟩ := hc.full (by decide)
  have hlow := hc.low (by decide)
  have h1 := hc.room
  have h2 := hc.len
  have h3 := hc.few
  have h4 := places_few hn hx.1.1 hc
  rw [reachL_ext hc.ext hw (leads_there hld), hR] at h4
  rw [hn, show ((k : Int) - 0).toNat = k by omega] at h3
  simp only [List.length_nil] at h2 h3
  have hp : 0 < 2 ^ k := Nat.pow_pos (by decide)
  have e1 : k * (3 * s + 1) = 3 * (k * s) + k := by rw [Nat.mul_add, Nat.mul_one, Nat.mul_left_comm]
  have e2 : 6 * (k : Int) * ((s : Int) + 1) = 6 * ((k * s : Nat) : Int) + 6 * (k : Int) := by rw [Int.mul_add, Int.mul_one, Int.mul_assoc, Int.natCast_mul]
  rw [e2]
  rw [e1] at h4
  constructor
  · omega
  · omega

set_option maxRecDepth 100000 in
theorem enough_calls (k : Nat) (hk : k ≤ 6) (s : Nat) (hs : s ≤ 1048576) (w : World) :
    Calls Tryz.prog 24 #[.int .i64 (k : Int), .int .i64 (s : Int)] w fun e w' => ∃ r : Int, e = .returned (.int .i64 r) ∧ w = w' ∧ (r = 2 * ((2 ^ k : Nat) : Int) ∨ r = 6 * (k : Int) * ((s : Int) + 1)) := by
  have hS := size_calls k (by omega) w
  obtain ⟨p, hp⟩ : ∃ p : Nat, p = 2 ^ k := ⟨_, rfl⟩
  have h6 : 2 ^ k ≤ 2 ^ 6 := Nat.pow_le_pow_right (by decide) hk
  have e6 : (2 : Nat) ^ 6 = 64 := rfl
  rw [← hp] at hS ⊢
  rw [← hp, e6] at h6
  have HS := Lib.hid hS
  obtain ⟨X, hX⟩ : ∃ X : Int, X = 6 * (k : Int) * ((s : Int) + 1) := ⟨_, rfl⟩
  rw [← hX]
  clear hS hp e6
  have hk7 : k = 0 ∨ k = 1 ∨ k = 2 ∨ k = 3 ∨ k = 4 ∨ k = 5 ∨ k = 6 := by omega
  rcases hk7 with rfl | rfl | rfl | rfl | rfl | rfl | rfl
  all_goals
    simp at hX
    by_cases hle : 2 * (p : Int) ≤ X
    · subst hX
      go_enter Tryz.func24, Tryz.ntmps24
      go_wp2_with (first | (go_at_call 44; refine HS.out.mono ?_; rintro e w1 ⟨rfl, rfl⟩) | fail)
      go_ret
      exact ⟨_, rfl, rfl, by omega⟩
    · subst hX
      go_enter Tryz.func24, Tryz.ntmps24
      go_wp2_with (first | (go_at_call 44; refine HS.out.mono ?_; rintro e w1 ⟨rfl, rfl⟩) | fail)
      go_ret
      exact ⟨_, rfl, rfl, by omega⟩

set_option maxRecDepth 100000 in
theorem convertRoom_out (n m f g a : Int) (w : World) (h : n < 0 ∨ 6 < n ∨ m < 0 ∨ 400 < m ∨ f < 1 ∨ 5 < f ∨ g < 1 ∨ 5 < g) :
    Calls Tryz.prog 4 #[.int .i64 n, .int .i64 m, .int .u8 f, .int .u8 g, .int .u64 a] w fun e w' => e = .returned (.bool true) ∧ Keeps w w' := by
  have H := Lib.hid h
  clear h
  go_enter Tryz.func4, Tryz.ntmps4
  go_wp2_with (first | (go_at_call 18; refine (l25_alive _).mono ?_; rintro e w1 ⟨rfl, hk⟩) | fail)
  all_goals first | (go_ret; exact ⟨rfl, by (exact kp)⟩) | (exfalso; have := H.out; omega)

theorem tabR {w : World} {B : Nat} {bs : List Bool} (h : BoolsAt w B bs) : TabAt w B 0 bs := fun i b hb => by
  rw [Nat.zero_add]
  exact h.cell hb

set_option maxRecDepth 100000 in
set_option maxHeartbeats 8000000 in
theorem convertRoom_in (k : Nat) (m f g a : Int) (w : World) (hk6 : k ≤ 6) (hm0 : 0 ≤ m) (hm4 : m ≤ 400) (hf : 1 ≤ f ∧ f ≤ 5) (hg : 1 ≤ g ∧ g ≤ 5) (ha : 0 ≤ a) (ha2 : a ≤ 18446744073709551615) :
    Calls Tryz.prog 4 #[.int .i64 (k : Int), .int .i64 m, .int .u8 f, .int .u8 g, .int .u64 a] w fun e w' => e = .returned (.bool true) ∧ Keeps w w' := by
  have h6 : 2 ^ k ≤ 2 ^ 6 := Nat.pow_le_pow_right (by decide) hk6
  have e6 : (2 : Nat) ^ 6 = 64 := rfl
  rw [e6] at h6
  have H6 := Lib.hid h6
  have HP0 := Lib.hid (Nat.pow_pos (n := k) (show 0 < 2 by decide))
  clear h6 e6
  go_enter Tryz.func4, Tryz.ntmps4
  go_wp2_with (first | (go_at_call 18; refine (l25_alive _).mono ?_; rintro e w1 ⟨rfl, hk⟩) | fail)
  have HK1 := Lib.hid hk
  clear hk
  refine (bits_calls k (by omega) a ha ha2 _).mono ?_
  rintro e w2 ⟨bs, hbl, rfl, hB, hk2⟩
  have HBL := Lib.hid hbl
  have HB := Lib.hid hB
  have HK2 := Lib.hid (HK1.out.trans hk2)
  have zB := hB.lt
  clear hB hk2 hbl
  go_wp2_with fail
  refine (store_new (k : Int) 300 _ (by omega) (by omega) (by omega) (by omega)).mono ?_
  rintro e w3 ⟨sb, F, rfl, hk3, hF, hS⟩
  have HS := Lib.hid hS
  have HF := Lib.hid hF
  have HK3 := Lib.hid hk3
  have nFB : ¬ F w1.heap.size := fun hf => by have := HF.out _ hf; omega
  have hB3 : BoolsAt w3 w1.heap.size bs := HB.out.keep (Keeps.upd hk3 (fun _ => False)) (fun h => h)
  have hbt : (bs.drop 0).take (2 ^ k) = bs := by rw [List.drop_zero, List.take_of_length_le (by rw [HBL.out]; exact Nat.le_refl _)]
  -- what Made makes, plainly
  obtain ⟨N0, hN0⟩ : ∃ N0, N0 = St.new (k : Int) 300 := ⟨_, rfl⟩
  have wN0 : N0.wf := by rw [hN0]; exact hS.wf
  have nN0 : N0.n = (k : Int) := by rw [hN0]; rfl
  have rN0 : N0.room = 300 := by rw [hN0]; rfl
  have lN0 : N0.len = 0 := by rw [hN0]; rfl
  have fit0 := fitP_room hf k N0 bs 0 wN0 (by omega) (by omega) (by omega) HBL.out (by have := H6.out; omega)
  obtain ⟨M1, x, h1⟩ : ∃ M1 x, madeP f k N0 bs 0 = (M1, x) := ⟨_, _, rfl⟩
  have g1 := goodP_made hf k N0 bs 0 wN0 (by omega) (by omega) (by omega) HBL.out fit0
  have len1 := madeP_len (f := f) k N0 bs 0
  rw [h1] at g1 len1
  dsimp only at g1 len1
  have most1 := g1.most
  have hr1 : 0 ≤ M1.len ∧ M1.len ≤ 63 := by have := H6.out; omega
  obtain ⟨fit2, h2⟩ := fitP_at hf (r := M1.len + m) k N0 bs 0 wN0 (by omega) (by omega) (by omega) HBL.out fit0 (by rw [h1]; show M1.len ≤ M1.len + m; omega)
  rw [h1] at h2
  simp only at h2
  have hNr : N0.at (M1.len + m) = St.new (k : Int) (M1.len + m) := by rw [hN0]; rfl
  rw [hNr] at fit2 h2
  have hmade := kmadeq_calls f hf k (by omega) 0 (2 ^ k) 0 F w3 N0 (by rw [hN0]; exact hS) hB3 nFB (by omega) (Nat.le_refl _) (by have := H6.out; omega) (by rw [HBL.out]; omega) (by omega) (by omega) (by rw [hbt]; exact fit0)
  rw [hbt, h1] at hmade
  have HMD := Lib.hid hmade
  have HFIT := Lib.hid fit2
  have HMP := Lib.hid h2
  have HBT := Lib.hid hbt
  have HB3 := Lib.hid hB3
  have HW0 := Lib.hid (⟨nN0, hr1⟩ : N0.n = (k : Int) ∧ 0 ≤ M1.len ∧ M1.len ≤ 63)
  clear hmade hbt hNr fit2 h2 g1 len1 most1 fit0 h1 wN0 rN0 lN0 hN0 hS hF hk3 hB3 nN0
  go_wp2_with fail
  refine HMD.out.mono ?_
  rintro e w4 ⟨rfl, hxo, hst1⟩
  obtain ⟨⟨F4, r4, sub4⟩, u4⟩ := hst1
  have hB4 : BoolsAt w4 w1.heap.size bs := HB3.out.keep u4 nFB
  have hLen := store_len r4
  obtain ⟨ml, hml⟩ : ∃ ml, ml = M1.len := ⟨_, rfl⟩
  rw [← hml] at hLen hr1
  have HLen := Lib.hid hLen
  have HML := Lib.hid hml
  have hkw4 : Keeps w w4 := (HK2.out.trans HK3.out).new u4 (fun j hj => by have := HF.out j hj; have := HK2.out.size; omega)
  have z4 := u4.size
  have z3 := HK3.out.size
  have HK4 := Lib.hid hkw4
  have HB4 := Lib.hid hB4
  have HXO := Lib.hid hxo
  have hzB4 : w1.heap.size < w4.heap.size := by omega
  clear hLen hml r4 sub4 u4 hkw4 hB4 hxo HMD HB3
  go_wp2_with fail
  refine HLen.out.mono ?_
  rintro e w' ⟨rfl, rfl⟩
  go_wp2_with fail
  refine (store_new (k : Int) (ml + m) _ (by omega) (by omega) (by omega) (by omega)).mono ?_
  rintro e w5 ⟨sb2, F2, rfl, hk5, hF2, hS2⟩
  have nFB2 : ¬ F2 w1.heap.size := fun hf => by have := hF2 _ hf; omega
  have hB5 : BoolsAt w5 w1.heap.size bs := HB4.out.keep (Keeps.upd hk5 (fun _ => False)) (fun h => h)
  have hmade := kmadeq_calls f hf k (by omega) 0 (2 ^ k) 0 F2 w5 (St.new (k : Int) (ml + m)) hS2 hB5 nFB2 (by omega) (Nat.le_refl _) (by have := H6.out; omega) (by rw [HBL.out]; omega) (by simp [St.new]) (by show ml + m < 1048576; omega) (by rw [HBT.out, HML.out]; exact HFIT.out)
  rw [HBT.out] at hmade
  have hmp := HMP.out
  rw [← HML.out] at hmp
  rw [hmp] at hmade
  have hfit := HFIT.out
  rw [← HML.out] at hfit
  have good := goodP_made hf k (St.new (k : Int) (ml + m)) bs 0 hS2.wf (by show ml + m < 1048576; omega) (by omega) (by simp [St.new]) HBL.out hfit
  rw [hmp] at good
  simp only at good hmade
  have lMs : (M1.at (ml + m)).len = ml := HML.out.symm
  have rMs : (M1.at (ml + m)).room = ml + m := rfl
  have nMs : (0 : Int) + (k : Nat) = (M1.at (ml + m)).n := by rw [good.ext.n]; simp [St.new]
  obtain ⟨Ms, hMs⟩ : ∃ Ms, Ms = M1.at (ml + m) := ⟨_, rfl⟩
  rw [← hMs] at good hmade lMs rMs nMs
  have HMD := Lib.hid hmade
  have HG := Lib.hid good
  have HM := Lib.hid (⟨lMs, rMs, nMs⟩ : Ms.len = ml ∧ Ms.room = ml + m ∧ (0 : Int) + (k : Nat) = Ms.n)
  have HB5 := Lib.hid hB5
  have HF2 := Lib.hid hF2
  have HK5 := Lib.hid (HK4.out.trans hk5)
  have HK45 := Lib.hid hk5
  clear hmade hmp hfit good lMs rMs nMs hMs hS2 hB5 HFIT HMP hF2 hk5
  go_wp2_with fail
  refine HMD.out.mono ?_
  rintro e w6 ⟨rfl, hxo, hst2⟩
  obtain ⟨⟨F6, r6, sub6⟩, u6⟩ := hst2
  have z5 := HK45.out.size
  have z6 := u6.size
  have hzB6 : w1.heap.size < w6.heap.size := by omega
  have nF6B : ¬ F6 w1.heap.size := fun hf => by
    rcases sub6 _ hf with q | q
    · exact nFB2 q
    · omega
  have low6 : ∀ j, F6 j → w1.heap.size < j := fun j hj => by
    rcases sub6 j hj with q | q
    · have := HF2.out j q; omega
    · omega
  have kx := (Keeps.refl w6).alloc (.cells #[.int .u8 x.tag, .int .u32 x.to] 31)
  have hB6 : BoolsAt (w6.alloc (.cells #[.int .u8 x.tag, .int .u32 x.to] 31)) w1.heap.size bs := (HB5.out.keep u6 nFB2).keep (Keeps.upd kx (fun _ => False)) (fun h => h)
  have hkw6 : Keeps w w6 := HK5.out.new u6 (fun j hj => by have := HF2.out j hj; have := HK2.out.size; omega)
  have hRoom := store_room (r6.keeps kx)
  have hLen := store_len (r6.keeps kx)
  rw [HM.out.2.1] at hRoom
  rw [HM.out.1] at hLen
  have hTo := to_calls (r6.keeps kx) f g x hxo (by rw [HM.out.2.1]; omega)
  have hcnt := made_count r6 hf hk6 HM.out.2.2 HBL.out (by
    refine ⟨?_, HG.out.right⟩
    rw [HBT.out]
    exact HG.out.isT) hxo
  have hld := HG.out.isT.leads HG.out.wf hf HM.out.2.2
  have hcv : convC Ms f g x = 0 := by
    unfold convC
    have hb : ∀ t : Int, 1 ≤ t ∧ t ≤ 5 → isFormB t = true := fun t ht => by
      unfold isFormB
      simpa using ht
    rw [if_neg (by rw [hb f hf, hb g hg]; simp), if_neg (by rw [hld]; simp)]
  have hSz := fun (W : World) (hW : TabAt W w1.heap.size 0 bs) => rsize17_calls f hf k hk6 (2 ^ k) bs W hW HBL.out (Nat.le_refl _) (by have := H6.out; omega)
  obtain ⟨s, hs⟩ : ∃ s, s = termN f k bs := ⟨_, rfl⟩
  rw [← hs] at hSz hcnt
  have hs2 : s ≤ 1048576 := by
    rw [← hcnt.2.1]
    have := reach_most (M := Ms) (a := x.to)
    have := r6.few
    omega
  have HRoom := Lib.hid hRoom
  have HLen := Lib.hid hLen
  have HTo := Lib.hid hTo
  have HSz := Lib.hid hSz
  have HCN := Lib.hid hcnt.2.1
  have HLD := Lib.hid hld
  have HCV := Lib.hid hcv
  have HB6 := Lib.hid hB6
  have HK6 := Lib.hid hkw6
  have HLW := Lib.hid low6
  have HXO := Lib.hid hxo
  have nF6x : ¬ F6 w6.heap.size := fun hf => by have := r6.lt _ hf; omega
  clear hRoom hLen hTo hSz hcnt hld hcv hB6 hkw6 low6 sub6 u6 r6 hxo hs HMD
  go_wp2_with (first
    | (go_at_call 21; refine HRoom.out.mono ?_; rintro e w' ⟨rfl, rfl⟩)
    | (go_at_call 13; refine HLen.out.mono ?_; rintro e w' ⟨rfl, rfl⟩)
    | fail)
  refine HTo.out.mono ?_
  rintro e w7 ⟨M', V', y, er, F7, rfl, hyo, hu, hF7, hS7, hc⟩
  obtain ⟨her, hcn⟩ : (er = 0 ∨ er = 6) ∧ Conv f g Ms [] x 0 M' V' y er := by
    rcases hc with ⟨q, _⟩ | ⟨_, q1, q2⟩
    · exact absurd HCV.out q
    · exact ⟨q1, q2⟩
  have x0 := hu.cellAt (b := w6.heap.size) (o := 0) (v := .int .u8 x.tag) nF6x (by simp [go_sem])
  have x1 := hu.cellAt (b := w6.heap.size) (o := 1) (v := .int .u32 x.to) nF6x (by simp [go_sem])
  have hB7 : BoolsAt w7 w1.heap.size bs := HB6.out.keep hu nF6B
  have hkw7 : Keeps w w7 := (HK6.out.trans kx).new hu (fun j hj => by have := HLW.out j hj; have := HK2.out.size; have := HK1.out.size; omega)
  have hn7 : (0 : Int) + (k : Nat) = M'.n := by rw [hcn.ext.n]; exact HM.out.2.2
  have hIsx := fun (W : World) (hW : Keeps w7 W) => is19_calls (hS7.keeps hW) f hf HXO.out hk6 hn7 (IsT.ext hcn.ext hf _ _ _ _ HG.out.isT) (rightK_ext hcn.ext HG.out.wf HG.out.right) (tabR (hB7.keep (Keeps.upd hW (fun _ => False)) (fun h => h)))
  have hSz7 := fun (W : World) (hW : Keeps w7 W) => HSz.out W (tabR (hB7.keep (Keeps.upd hW (fun _ => False)) (fun h => h)))
  have HIsx := Lib.hid hIsx
  have HSz7 := Lib.hid hSz7
  have HK7 := Lib.hid hkw7
  have lx7 := lt_of_cell x0
  rcases her with rfl | rfl
  · have gd := hcn.good rfl
    have hty : IsT g M' k bs 0 y := by
      have := gd.isT
      rw [tabE_ext HG.out.wf hcn.ext (Weak.of HLD.out), IsT.means HG.out.wf hf k bs 0 x HG.out.isT HM.out.2.2 (Int.le_refl _), show (M'.n - 0).toNat = k by omega] at this
      exact this
    have hIsy := fun (W : World) (hW : Keeps w7 W) => is19_calls (hS7.keeps hW) g hg hyo hk6 hn7 hty gd.right (tabR (hB7.keep (Keeps.upd hW (fun _ => False)) (fun h => h)))
    have HIsy := Lib.hid hIsy
    clear hIsx hSz7 hIsy hty gd hcn hc hS7 hu hF7 hB7 hkw7 hyo HSz HTo HG
    go_wp2_with fail
    refine (HIsx.out _ (by (exact kp))).mono ?_
    rintro e w8 ⟨rfl, hk8⟩
    have hk78 : Keeps w7 w8 := by (exact kp)
    have y0 := hk8.cell (a := ⟨w7.heap.size, 0, none⟩) (v := .int .u8 y.tag) (by simp [go_sem])
    have y1 := hk8.cell (a := ⟨w7.heap.size, 1, none⟩) (v := .int .u32 y.to) (by simp [go_sem])
    go_wp2_with fail
    refine (HIsy.out _ hk78).mono ?_
    rintro e w9 ⟨rfl, hk9⟩
    go_wp2_with fail
    go_ret
    exact ⟨rfl, (HK7.out.trans hk78).trans hk9⟩
  · obtain ⟨-, rfl, -⟩ := hcn.full (by decide)
    have hlf := room_left (k := k) HG.out.wf (by have := HM.out.2.2; omega) HXO.out hcn (m := m) (by have := HM.out; omega) HCN.out HLD.out
    have HLF := Lib.hid hlf
    clear hIsx hSz7 hcn hc hS7 hu hF7 hB7 hkw7 hyo HSz HTo HG hlf
    go_wp2_with fail
    refine (HIsx.out _ (by (exact kp))).mono ?_
    rintro e w8 ⟨rfl, hk8⟩
    have hk78 : Keeps w7 w8 := by (exact kp)
    have y0 := hk8.cell (a := ⟨w7.heap.size, 0, none⟩) (v := .int .u8 0) (by simp [go_sem])
    have y1 := hk8.cell (a := ⟨w7.heap.size, 1, none⟩) (v := .int .u32 0) (by simp [go_sem])
    go_wp2_with fail
    refine (HSz7.out _ hk78).mono ?_
    rintro e w9 ⟨rfl, hk9⟩
    go_wp2_with fail
    refine (enough_calls k hk6 s hs2 _).mono ?_
    rintro e w10 ⟨r, rfl, rfl, hr⟩
    have hlt : m < r := by
      rcases hr with rfl | rfl
      · exact HLF.out.1
      · exact HLF.out.2
    have hml : ml + m - ml = m := by omega
    clear hr
    go_wp2_with fail
    go_ret
    exact ⟨rfl, (HK7.out.trans hk78).trans hk9⟩

theorem convertRoom_walk (n m f g a : Int) (w : World) (_ : (Lit.int .i64 n).wf = true) (_ : (Lit.int .i64 m).wf = true) (_ : (Lit.int .u8 f).wf = true) (_ : (Lit.int .u8 g).wf = true) (ha : (Lit.int .u64 a).wf = true) :
    Calls Tryz.prog 4 #[.int .i64 n, .int .i64 m, .int .u8 f, .int .u8 g, .int .u64 a] w fun e w' => e = .returned (.bool true) ∧ Keeps w w' := by
  by_cases h : n < 0 ∨ 6 < n ∨ m < 0 ∨ 400 < m ∨ f < 1 ∨ 5 < f ∨ g < 1 ∨ 5 < g
  · exact convertRoom_out n m f g a w h
  · obtain ⟨k, rfl⟩ : ∃ k : Nat, n = (k : Int) := ⟨n.toNat, by omega⟩
    obtain ⟨a0, a1⟩ := wf_u64 ha
    exact convertRoom_in k m f g a w (by omega) (by omega) (by omega) (by omega) (by omega) a0 a1

set_option maxRecDepth 100000 in
theorem convertRoom_lifted (os : Os) (started : os.Started) (H : Type) (enc : TypeId × Value → H) :
    ReturnsInHanded {} Tryz.checked os 4 .any (Rows.convertRoomSpec.pre6 enc Tryz.prog Tryz.f4 Rows.convertRoomRow.domain false) (Rows.convertRoomSpec.post enc Tryz.prog Tryz.f4 false true false false) := by
  refine returnsInHanded_of_change (C := Tryz.checked) own started (by kernel_rfl) Tryz.func4
    (ChangeSpec.witness6 (enc := enc) (C := Tryz.checked) false ⟨#[], #[.int .i64 0, .int .i64 0, .int .u8 0, .int .u8 0, .int .u64 0], []⟩ 12 (by kernel_rfl) (by kernel_rfl) (by kernel_rfl) (by kernel_rfl)) ?_
  intro W base args ds gs before hval0 hW hcnd _
  have hval : ∀ (j : Nat) t v, Tryz.f4.params[j]? = some t → args[j]? = some v → Value.okWide Tryz.prog W .any base t v := hval0
  have hW' := hW
  obtain ⟨p, q, hA0, hV, rfl, hfz, hnd⟩ := hW
  have hA : DataW.TrodAll enc Tryz.prog W 0 (fun _ => true) true Tryz.f4.params.toList args.toList ds p := hA0
  rw [Tryz.params4] at hA hval
  have hAk := hA
  obtain ⟨v0, vs0, d0, ds0, p0, q0, hargs, rfl, rfl, h0, r0⟩ := trodAll_cons hA
  obtain ⟨v1, vs1, d1, ds1, p1, q1, rfl, rfl, rfl, h1, r1⟩ := trodAll_cons r0
  obtain ⟨v2, vs2, d2, ds2, p2, q2, rfl, rfl, rfl, h2, r2⟩ := trodAll_cons r1
  obtain ⟨v3, vs3, d3, ds3, p3, q3, rfl, rfl, rfl, h3, r3⟩ := trodAll_cons r2
  obtain ⟨v4, vs4, d4, ds4, p4, q4, rfl, rfl, rfl, h4, r4⟩ := trodAll_cons r3
  obtain ⟨rfl, rfl, rfl⟩ := trodAll_nil r4
  obtain rfl : args = #[v0, v1, v2, v3, v4] := by cases args; simp_all
  obtain ⟨rfl, rfl⟩ := trodVars_none hV
  obtain ⟨a0, rfl, rfl, rfl, w0⟩ := open_int Tryz.underlying3 (hval 0 3 v0 rfl rfl) h0
  obtain ⟨a1, rfl, rfl, rfl, w1⟩ := open_int Tryz.underlying3 (hval 1 3 v1 rfl rfl) h1
  obtain ⟨a2, rfl, rfl, rfl, w2⟩ := open_int Tryz.underlying5 (hval 2 5 v2 rfl rfl) h2
  obtain ⟨a3, rfl, rfl, rfl, w3⟩ := open_int Tryz.underlying5 (hval 3 5 v3 rfl rfl) h3
  obtain ⟨a4, rfl, rfl, rfl, w4⟩ := open_int Tryz.underlying43 (hval 4 43 v4 rfl rfl) h4
  clear hA0 hval0
  refine (convertRoom_walk a0 a1 a2 a3 a4 W w0 w1 w2 w3 w4).mono fun e W' ⟨he, bel⟩ => ?_
  subst he
  exact ⟨_, rfl, _, _, _, [], _, [], hW', trodAll_mk1 (shut_bool Tryz.underlying4 _), trodAll_below laidOut bel _ _ _ _ (by kernel_rfl) hAk, rfl, Below.frame bel _, fun h => by cases h⟩

theorem convertRoom_over : Rows.convertRoomRow.holds Tryz.pinned (OpenSpec.ofChange Rows.convertRoomSpec) :=
  OpenClaim.holds_of_wide 4 Tryz.f4 rfl rfl rfl rfl rfl rfl rfl ⟨rfl, rfl, rfl, rfl, rfl⟩ rfl rfl rfl rfl rfl (by kernel_rfl) Tryz.func4 (by kernel_rfl)
    (of_decide_eq_true (by kernel_rfl)) (by unfold Func.isWrapper; first | (rw [if_pos (by decide +kernel)]; kernel_rfl) | (rw [if_neg (by decide +kernel)]; exact ⟨rfl, rfl⟩))
    (fun os started H enc _ => convertRoom_lifted os started H enc)

theorem convertRoom_proved : Rows.ConvertRoomSaid := convertRoom_over

end Go.Proofs.YtiacdpoldgfpbaaGreat
