/-
  Proved: the statement ConvertMeans, for every input.
-/
import Derived.Test.YtiacdpoldgfpbaaGreatPConvUxA
import Derived.Test.YtiacdpoldgfpbaaGreatPIsWxA
import Derived.Test.YtiacdpoldgfpbaaGreatPTableWxA
import Derived.Test.YtiacdpoldgfpbaaGreatRows
namespace Go.Proofs.YtiacdpoldgfpbaaGreat
set_option linter.unusedSimpArgs false
set_option linter.unusedVariables false
set_option maxHeartbeats 600000
open Go.ChangeShapes Go.WideShapes Go.ChangeAt Go.RowKit

set_option maxRecDepth 100000 in
theorem convertMeans_out (n f g : Int) (a : Option Addr) (len cap : Nat) (v : Edge) (w : World) (h : 40 < len ∨ n < 0 ∨ 6 < n) :
    Calls Tryz.prog 5 #[.int .i64 n, .slice a len cap, .int .u8 f, .agg #[.int .u8 v.tag, .int .u32 v.to], .int .u8 g] w fun e w' => e = .returned (.bool true) ∧ Keeps w w' := by
  have H := Lib.hid h
  clear h
  go_enter Tryz.func5, Tryz.ntmps5
  go_wp2_with (first | (go_at_call 18; refine (l25_alive _).mono ?_; rintro e w1 ⟨rfl, hb⟩; have y0 := hb.cell (a := ⟨w.heap.size, 0, none⟩) (v := .int .u8 v.tag) (by simp [go_sem]); have y1 := hb.cell (a := ⟨w.heap.size, 1, none⟩) (v := .int .u32 v.to) (by simp [go_sem]); have hk : Keeps w w1 := (by (exact kp)); have hsz := hb.size; simp only [World.size_alloc] at hsz) | fail)
  all_goals first | (go_ret; exact ⟨rfl, by (exact kp)⟩) | (exfalso; have := H.out; omega)

def ToStep (F : Nat → Prop) (w : World) (sb : Nat) (f g : Int) (M : St) (v : Edge) (r : Ending) (w' : World) : Prop :=
  ∃ (M' : St) (x : Edge) (F' : Nat → Prop), r = .returned (.tuple #[.agg #[.int .u8 x.tag, .int .u32 x.to], .int .u8 (convC M f g v)]) ∧ x.ok ∧ Upd F w w' ∧ (∀ j, F' j → F j ∨ w.heap.size ≤ j) ∧ StoreRep F' w' sb M' ∧ Ext M M' ∧ M'.room = M.room ∧ M'.len ≤ M.len + 126 ∧
    (convC M f g v = 0 → GoodC f g M' v 0 x) ∧ (convC M f g v ≠ 0 → x = ⟨0, 0⟩)

theorem tabV {w : World} {B : Nat} {bs : List Bool} (h : BoolsAt w B bs) : TabAt w B 0 bs := fun i b hb => by
  rw [Nat.zero_add]
  exact h.cell hb

theorem small_pow {n : Int} (h0 : 0 ≤ n) (h : n ≤ 6) : 2 ^ (n - 0).toNat ≤ 64 := by
  have : 2 ^ (n - 0).toNat ≤ 2 ^ 6 := Nat.pow_le_pow_right (by decide) (by omega)
  have e : (2 : Nat) ^ 6 = 64 := rfl
  omega

theorem toOut_step {F : Nat → Prop} {w w' : World} {sb : Nat} {f g : Int} {M : St} {v : Edge} {r : Ending} (h : ToOut F w sb f g M v r w') (h0 : 0 ≤ M.n) (h6 : M.n ≤ 6) (hroom : M.len + 126 < M.room) : ToStep F w sb f g M v r w' := by
  obtain ⟨M', V', x, er, F', rfl, hx, hu, hF, hS, hc⟩ := h
  have hp := small_pow h0 h6
  rcases hc with ⟨c1, c2, c3, c4⟩ | ⟨c1, c2, c3⟩
  · subst c2 c3 c4
    exact ⟨M', _, F', rfl, hx, hu, hF, hS, Ext.refl _, rfl, by omega, fun hh => absurd hh c1, fun _ => rfl⟩
  · have her : er = 0 := c3.room0 (by omega)
    subst her
    have h1 := c3.len
    have h2 := c3.few
    simp only [List.length_nil] at h1 h2
    exact ⟨M', x, F', by rw [c1], hx, hu, hF, hS, c3.ext, c3.room, by omega, fun _ => c3.good rfl, fun hh => absurd c1 hh⟩

set_option maxRecDepth 100000 in
set_option maxHeartbeats 2000000 in
theorem convertMeans_in (n f g : Int) (a : Option Addr) (len cap : Nat) (rs : List Rec) (v : Edge) (w : World) (hv : v.ok) (h1 : len ≤ 40) (h2 : 0 ≤ n) (h3 : n ≤ 6) (hrs : IsRecs w a len rs) :
    Calls Tryz.prog 5 #[.int .i64 n, .slice a len cap, .int .u8 f, .agg #[.int .u8 v.tag, .int .u32 v.to], .int .u8 g] w fun e w' => e = .returned (.bool true) ∧ Keeps w w' := by
  have HR := Lib.hid hrs
  have HV := Lib.hid hv
  clear hrs hv
  go_enter Tryz.func5, Tryz.ntmps5
  go_wp2_with (first | (go_at_call 18; refine (l25_alive _).mono ?_; rintro e w1 ⟨rfl, hb⟩; have y0 := hb.cell (a := ⟨w.heap.size, 0, none⟩) (v := .int .u8 v.tag) (by simp [go_sem]); have y1 := hb.cell (a := ⟨w.heap.size, 1, none⟩) (v := .int .u32 v.to) (by simp [go_sem]); have hk : Keeps w w1 := (by (exact kp)); have hsz := hb.size; simp only [World.size_alloc] at hsz) | fail)
  refine (built' n 600 a len cap rs _ h2 (by omega) (by omega) (by omega) (by omega) (HR.out.keeps hk)).mono ?_
  rintro e w2 ⟨sb, mb, M, L, rfl, hB, hMn, hMr, hMl⟩
  subst hMn
  have HBB := Lib.hid hB
  obtain ⟨⟨F, G, q1, q2, q3, q4, q5⟩, q6⟩ := hB
  have v0 := q6.cell y0
  have v1 := q6.cell y1
  have hkw : Keeps w w2 := hk.trans q6
  have hwz : w.heap.size < w2.heap.size := by have := q6.size; omega
  have HKW := Lib.hid hkw
  have hM := fun (W : World) (hW : Keeps w2 W) => rmay_calls (q2.keeps hW) f v 0 HV.out
  have hM25 := fun (W : World) (hW : Keeps w2 W) => rmay25_calls (q2.keeps hW) f g v HV.out
  have hmc := convC_may q1.wf f g v
  have hmf := convC_may q1.wf f f v
  have hr := mayC_range M f v 0
  have hrc := convC_range M f g v
  by_cases c0 : mayC M f v 0 = 0
  · have hfb : isFormB f = true := by
      cases hb : isFormB f with
      | true => rfl
      | false => unfold mayC at c0; rw [if_pos hb] at c0; cases c0
    have hf15 : 1 ≤ f ∧ f ≤ 5 := by unfold isFormB at hfb; simpa using hfb
    have hlead : M.leads f v 0 = true := by
      cases hb : M.leads f v 0 with
      | true => rfl
      | false =>
        unfold mayC at c0
        rw [if_neg (by rw [hfb]; simp)] at c0
        split at c0
        · cases c0
        · first | (rw [if_pos hb] at c0; cases c0) | cases c0
    have cf0 : ∀ M1 : St, Ext M M1 → convC M1 f f v = 0 := fun M1 hE => by
      unfold convC
      rw [if_neg (by rw [hfb]; simp), if_neg (by rw [hE.leads hlead]; simp)]
    obtain ⟨k, hk⟩ : ∃ k : Nat, M.n = (k : Int) := ⟨M.n.toNat, by omega⟩
    have hTo := fun (W : World) (hW : Keeps w2 W) => (to_calls (q1.keeps hW) f g v HV.out (by omega)).mono fun r w' hh => toOut_step hh h2 h3 (by omega)
    have hTab := fun (W : World) (hW : Keeps w2 W) (G' : Nat → Prop) (hG : RefRep G' W mb M L) => table_calls hG f hf15 v HV.out k 0 (by omega) (by show M.leads f v ((0 : Nat) : Int) = true; exact hlead)
    have HTo := Lib.hid hTo
    have HQ1 := Lib.hid q1
    have HQ2 := Lib.hid q2
    have HQ3 := Lib.hid q3
    have HQ4 := Lib.hid q4
    have HQ5 := Lib.hid q5
    have HF15 := Lib.hid hf15
    have HLD := Lib.hid hlead
    have HCF := Lib.hid cf0
    have HK := Lib.hid hk
    have HML := Lib.hid hMl
    have HMR := Lib.hid hMr
    have HN := Lib.hid (⟨h2, h3⟩ : 0 ≤ M.n ∧ M.n ≤ 6)
    obtain ⟨d, hd⟩ : ∃ d, d = convC M f g v := ⟨_, rfl⟩
    have HD := Lib.hid hd
    have hdr : d = 0 ∨ d = 4 := by
      rw [hd, hmc]
      split
      · exact .inr rfl
      · exact .inl c0
    clear hTo hTab q1 q2 q3 q4 q5 hf15 hlead cf0 hk hMl hMr h2 h3 hM hM25 hmc hmf hrc hr hfb hd
    go_wp2_with fail
    refine (HTo.out _ (Keeps.refl _)).mono ?_
    rintro e w3 ⟨M1, x, F1, rfl, hx, hu3, hF1, hS1, hE1, hR1, hL1, hg1, hz1⟩
    rw [← HD.out] at hg1 hz1 ⊢
    have nv : ¬ F w.heap.size := fun hh => by have := HQ4.out _ hh; omega
    have hs3 := hu3.size
    have sub3 := hF1
    replace v0 := hu3.cellAt nv v0
    replace v1 := hu3.cellAt nv v1
    have hn1 := hE1.n
    have hTi := fun (W : World) (hW : Keeps w3 W) => (tidy_calls (hS1.keeps hW) f v HV.out (by have := HMR.out; omega)).mono fun r w' hh => toOut_step hh (by have := HN.out; omega) (by have := HN.out; omega) (by have := HMR.out; have := HML.out; omega)
    have HTi := Lib.hid hTi
    have nF13 : ¬ F1 w3.heap.size := fun hh => by have := hS1.lt _ hh; omega
    have nF1v : ¬ F1 w.heap.size := fun hh => by
      rcases hF1 _ hh with q | q
      · exact nv q
      · omega
    have hRef3 := HQ2.out.keep hu3 (fun k hk hf => HQ3.out k hf hk)
    have hkw3 : Keeps w w3 := HKW.out.new hu3 (fun j hj => by have := HQ4.out j hj; omega)
    have hF1w : ∀ j, F1 j → w.heap.size ≤ j := fun j hj => by
      rcases hF1 j hj with q | q
      · have := HQ4.out j q; omega
      · omega
    have hF1G : ∀ j, G j → ¬ F1 j := fun j hg hf => by
      rcases hF1 j hf with q | q
      · exact HQ3.out j q hg
      · have := HQ2.out.lt j hg; omega
    have l3 : w.heap.size < w3.heap.size := lt_of_cell v0
    have HG1 := Lib.hid hg1
    have HZ1 := Lib.hid hz1
    have HE1 := Lib.hid hE1
    have HX := Lib.hid hx
    have HRF3 := Lib.hid hRef3
    have HKW3 := Lib.hid hkw3
    have HF1W := Lib.hid hF1w
    have HF1G := Lib.hid hF1G
    have HWF1 := Lib.hid hS1.wf
    clear hTi hu3 hF1 sub3 hS1 hE1 hR1 hL1 hg1 hz1 hx hRef3 hkw3 hF1w hF1G hn1 hs3
    go_wp2_with fail
    refine (HTi.out _ ((Keeps.refl _).alloc _)).mono ?_
    rintro e w4 ⟨M2, y, F2, rfl, hy, hu4, hF2, hS2, hE2, hR2, hL2, hg2, hz2⟩
    rw [HCF.out M1 HE1.out] at hg2 hz2 ⊢
    have x0 := hu4.cellAt (b := w3.heap.size) (o := 0) (v := .int .u8 x.tag) nF13 (by simp [go_sem])
    have x1 := hu4.cellAt (b := w3.heap.size) (o := 1) (v := .int .u32 x.to) nF13 (by simp [go_sem])
    replace v0 := hu4.cellAt (b := w.heap.size) (o := 0) (v := .int .u8 v.tag) nF1v (((Keeps.refl w3).alloc _).cell v0)
    replace v1 := hu4.cellAt (b := w.heap.size) (o := 1) (v := .int .u32 v.to) nF1v (((Keeps.refl w3).alloc _).cell v1)
    have hRef4 : RefRep G w4 mb M L := (HRF3.out.keeps ((Keeps.refl w3).alloc _)).keep hu4 (fun k hk => HF1G.out k hk)
    have hkw4 : Keeps w w4 := (HKW3.out.alloc _).new hu4 (fun j hj => HF1W.out j hj)
    have good2 := hg2 rfl
    have hld1 : M1.leads f v 0 = true := HE1.out.leads HLD.out
    have htab2 : tabE M2 f v 0 = tabE M f v 0 := by rw [tabE_ext HWF1.out hE2 (Weak.of hld1), tabE_ext HQ1.out.wf HE1.out (Weak.of HLD.out)]
    have hn2 : M2.n = (k : Int) := by have a := hE2.n; have b := HE1.out.n; have c := HK.out; omega
    have hy2 : IsT f M2 k (tabE M f v 0) 0 y := by
      have := good2.isT
      rw [htab2, hn2, show ((k : Int) - 0).toNat = k by omega] at this
      exact this
    have hx2 : d = 0 → (1 ≤ g ∧ g ≤ 5) ∧ IsT g M2 k (tabE M f v 0) 0 x ∧ rightK M2 g x 0 := fun hd0 => by
      have hg : 1 ≤ g ∧ g ≤ 5 := (convC_zero (HD.out.symm.trans hd0)).2.1
      have gg := (HG1.out hd0).ext hE2 HWF1.out hld1 HF15.out hg
      have := gg.isT
      rw [htab2, hn2, show ((k : Int) - 0).toNat = k by omega] at this
      exact ⟨hg, this, gg.right⟩
    have hown : kRight M f v 0 = true → y = v := fun hk => by
      have hr : rightK M f v 0 := fun hf => by
        unfold kRight at hk
        rcases hf with rfl | rfl | rfl
        · simpa using hk
        · simpa using hk
        · simpa using hk
      have := good2.own (rightK_ext hE2 HWF1.out (rightK_ext HE1.out HQ1.out.wf hr))
      rw [htab2, hn2, show ((k : Int) - 0).toNat = k by omega] at this
      exact IsT.det hS2.wf _ _ _ _ _ hy2 this
    have hM := fun (W : World) (hW : Keeps w4 W) => rmay_calls (hRef4.keeps hW) f v 0 HV.out
    have hM25 := fun (W : World) (hW : Keeps w4 W) => rmay25_calls (hRef4.keeps hW) f g v HV.out
    rw [c0] at hM
    rw [← HD.out] at hM25
    have hRt := fun (W : World) (hW : Keeps w4 W) => ref17_right (hRef4.keeps hW) f v 0 HV.out
    have hSt := fun (W : World) (hW : Keeps w4 W) => stays_calls (hS2.keeps hW) (hRef4.keeps hW) (HE1.out.trans hE2)
    have hIsy := fun (W : World) (hW : Keeps w4 W) (B : Nat) (hB : TabAt W B 0 (tabE M f v 0)) => is19_calls (hS2.keeps hW) f HF15.out hy (by have := HN.out; have := HK.out; omega) (by omega) hy2 good2.right hB
    have hIsx := fun (hd0 : d = 0) (W : World) (hW : Keeps w4 W) (B : Nat) (hB : TabAt W B 0 (tabE M f v 0)) => is19_calls (hS2.keeps hW) g (hx2 hd0).1 HX.out (by have := HN.out; have := HK.out; omega) (by omega) (hx2 hd0).2.1 (hx2 hd0).2.2 hB
    have hTab4 : ∀ W, Keeps w4 W → Calls Tryz.prog 31 #[.pointer (some ⟨mb, 0, none⟩), .int .u8 f, .agg #[.int .u8 v.tag, .int .u32 v.to], .int .i64 0] W fun r w' => ∃ B, r = .returned (.slice (some ⟨B, 0, none⟩) (2 ^ k) (2 ^ k)) ∧ W.heap.size ≤ B ∧ BoolsAt w' B (tabE M f v 0) ∧ Keeps W w' :=
      fun W hW => table_calls (hRef4.keeps hW) f HF15.out v HV.out k 0 (by have := HK.out; omega) HLD.out
    obtain ⟨ts, hts⟩ : ∃ ts, ts = tabE M f v 0 := ⟨_, rfl⟩
    obtain ⟨p, hp⟩ : ∃ p, p = 2 ^ k := ⟨_, rfl⟩
    obtain ⟨bb, hbb⟩ : ∃ bb, bb = kRight M f v 0 := ⟨_, rfl⟩
    rw [← hbb] at hRt hown
    rw [← hts, ← hp] at hTab4
    rw [← hts] at hIsy hIsx
    rw [← hp] at hIsy hIsx
    have HM := Lib.hid hM
    have HM25 := Lib.hid hM25
    have HRt := Lib.hid hRt
    have HSt := Lib.hid hSt
    have HIsy := Lib.hid hIsy
    have HIsx := Lib.hid hIsx
    have HTab := Lib.hid hTab4
    have HOWN := Lib.hid hown
    have HKW4 := Lib.hid hkw4
    have l4 : w.heap.size < w4.heap.size := lt_of_cell v0
    have l4' : w3.heap.size < w4.heap.size := lt_of_cell x0
    clear hM hM25 hRt hSt hIsy hIsx hTab4 hown hkw4 hts hp hbb hy2 hx2 htab2 hn2 good2 hg2 hz2 hRef4 hld1 hS2 hu4 hF2 hE2 hR2 hL2 hy HTi HTo HRF3 HKW3 HBB c0
    have hq : ∀ W, (binOp .neq 31 (.agg #[.int .u8 v.tag, .int .u32 v.to]) (.agg #[.int .u8 v.tag, .int .u32 v.to])).run Tryz.prog W = .ok (.bool false) W := fun W => by rw [run_neq_edge]; simp
    rcases hdr with rfl | rfl
    all_goals
      go_wp2_with fail
      refine (HM25.out _ ((Keeps.refl _).alloc _)).mono ?_
      rintro e w5 ⟨rfl, hk5⟩
      have z0 := hk5.cell (a := ⟨w4.heap.size, 0, none⟩) (v := .int .u8 y.tag) (by simp [go_sem])
      have z1 := hk5.cell (a := ⟨w4.heap.size, 1, none⟩) (v := .int .u32 y.to) (by simp [go_sem])
      have hk45 : Keeps w4 w5 := ((Keeps.refl _).alloc _).trans hk5
      replace v0 := hk45.cell v0
      replace v1 := hk45.cell v1
      replace x0 := hk45.cell x0
      replace x1 := hk45.cell x1
      clear hk5
      go_wp2_with fail
      refine (HM.out _ hk45).mono ?_
      rintro e w6 ⟨rfl, hk6⟩
      replace v0 := hk6.cell v0
      replace v1 := hk6.cell v1
      replace x0 := hk6.cell x0
      replace x1 := hk6.cell x1
      replace z0 := hk6.cell z0
      replace z1 := hk6.cell z1
      have hk46 := hk45.trans hk6
      clear hk45 hk6
      go_wp2_with fail
      refine (HTab.out _ hk46).mono ?_
      rintro e w7 ⟨B, rfl, hBl, hB, hk7⟩
      replace v0 := hk7.cell v0
      replace v1 := hk7.cell v1
      replace x0 := hk7.cell x0
      replace x1 := hk7.cell x1
      replace z0 := hk7.cell z0
      replace z1 := hk7.cell z1
      have hk47 := hk46.trans hk7
      have HB7 := Lib.hid hB
      clear hk46 hk7 hB hBl
      go_wp2_with fail
      refine (HIsy.out _ hk47 B (tabV HB7.out)).mono ?_
      rintro e w8 ⟨rfl, hk8⟩
      replace v0 := hk8.cell v0
      replace v1 := hk8.cell v1
      replace x0 := hk8.cell x0
      replace x1 := hk8.cell x1
      replace z0 := hk8.cell z0
      replace z1 := hk8.cell z1
      have hk48 := hk47.trans hk8
      have HB8 := Lib.hid (HB7.out.keep (Keeps.upd hk8 (fun _ => False)) (fun h => h))
      clear hk47 hk8
      go_wp2_with fail
      refine (HRt.out _ hk48).mono ?_
      rintro e w9 ⟨rfl, hk9⟩
      replace v0 := hk9.cell v0
      replace v1 := hk9.cell v1
      replace x0 := hk9.cell x0
      replace x1 := hk9.cell x1
      replace z0 := hk9.cell z0
      replace z1 := hk9.cell z1
      have hk49 := hk48.trans hk9
      have HB9 := Lib.hid (HB8.out.keep (Keeps.upd hk9 (fun _ => False)) (fun h => h))
      clear hk48 hk9
    · cases bb
      · go_wp2_with (first | (go_at_call 33; refine (HSt.out _ hk49).mono ?_; rintro e w10 ⟨rfl, hk10⟩; replace x0 := hk10.cell x0; replace x1 := hk10.cell x1; have HB10 := Lib.hid (HB9.out.keep (Keeps.upd hk10 (fun _ => False)) (fun h => h)); have hk4x := hk49.trans hk10) | fail)
        refine (HIsx.out trivial _ hk4x B (tabV HB10.out)).mono ?_
        rintro e w11 ⟨rfl, hk11⟩
        go_wp2_with fail
        go_ret
        exact ⟨rfl, (HKW4.out.trans hk4x).trans hk11⟩
      · obtain rfl := HOWN.out rfl
        go_wp2_with (first | (go_at_call 33; refine (HSt.out _ hk49).mono ?_; rintro e w10 ⟨rfl, hk10⟩; replace x0 := hk10.cell x0; replace x1 := hk10.cell x1; have HB10 := Lib.hid (HB9.out.keep (Keeps.upd hk10 (fun _ => False)) (fun h => h)); have hk4x := hk49.trans hk10) | fail)
        refine (HIsx.out trivial _ hk4x B (tabV HB10.out)).mono ?_
        rintro e w11 ⟨rfl, hk11⟩
        go_wp2_with fail
        go_ret
        exact ⟨rfl, (HKW4.out.trans hk4x).trans hk11⟩
    · have hxz := HZ1.out (by decide)
      subst hxz
      cases bb
      · go_wp2_with (first | (go_at_call 33; refine (HSt.out _ hk49).mono ?_; rintro e w10 ⟨rfl, hk10⟩; replace x0 := hk10.cell x0; replace x1 := hk10.cell x1; have hk4x := hk49.trans hk10) | fail)
        go_ret
        exact ⟨rfl, HKW4.out.trans hk4x⟩
      · obtain rfl := HOWN.out rfl
        go_wp2_with (first | (go_at_call 33; refine (HSt.out _ hk49).mono ?_; rintro e w10 ⟨rfl, hk10⟩; replace x0 := hk10.cell x0; replace x1 := hk10.cell x1; have hk4x := hk49.trans hk10) | fail)
        go_ret
        exact ⟨rfl, HKW4.out.trans hk4x⟩
  · have cf : convC M f f v = mayC M f v 0 := by
      rw [hmf]
      split
      · rename_i hc
        unfold mayC
        rw [if_pos (by rcases hc with hc | hc <;> exact hc)]
      · rfl
    have cg : convC M f g v ≠ 0 := by
      rw [hmc]
      split
      · decide
      · exact c0
    have hTo := fun (W : World) (hW : Keeps w2 W) => to_bad (q1.keeps hW) f g v HV.out cg
    have hTi := fun (W : World) (hW : Keeps w2 W) => tidy_bad (q1.keeps hW) f v HV.out (by rw [cf]; exact c0)
    have hSm := fun (W : World) (hW : Keeps w2 W) => same_both (HBB.out.keeps hW)
    rw [cf] at hTi
    obtain ⟨c, hc⟩ : ∃ c, c = mayC M f v 0 := ⟨_, rfl⟩
    obtain ⟨d, hd⟩ : ∃ d, d = convC M f g v := ⟨_, rfl⟩
    rw [← hc] at hTi hM hr c0
    rw [← hd] at hTo hM25 hrc
    have HTo := Lib.hid hTo
    have HTi := Lib.hid hTi
    have HSm := Lib.hid hSm
    have HM := Lib.hid hM
    have HM25 := Lib.hid hM25
    have g0 : (c != 0) = true := by simp [c0]
    have g1 : (d != d) = false := by simp
    have g2 : (c != c) = false := by simp
    clear hTo hTi hSm hM hM25 hmc hmf cf cg hc hd q1 q2 q3 q4 q5 HBB
    go_wp2_with fail
    refine (HTo.out _ (Keeps.refl _)).mono ?_
    rintro e w3 ⟨rfl, hk3⟩
    replace v0 := hk3.cell v0
    replace v1 := hk3.cell v1
    have l3 : w.heap.size < w3.heap.size := lt_of_cell v0
    go_wp2_with fail
    refine (HTi.out _ (hk3.trans ((Keeps.refl _).alloc _))).mono ?_
    rintro e w4 ⟨rfl, hk4⟩
    have p0 := hk4.cell (a := ⟨w3.heap.size, 0, none⟩) (v := .int .u8 0) (by simp [go_sem])
    have p1 := hk4.cell (a := ⟨w3.heap.size, 1, none⟩) (v := .int .u32 0) (by simp [go_sem])
    have hk34 : Keeps w3 w4 := ((Keeps.refl _).alloc _).trans hk4
    replace v0 := hk34.cell v0
    replace v1 := hk34.cell v1
    have l4 : w.heap.size < w4.heap.size := lt_of_cell v0
    have l4' : w3.heap.size < w4.heap.size := lt_of_cell p0
    have hk24 := hk3.trans hk34
    go_wp2_with fail
    refine (HM25.out _ (hk24.trans ((Keeps.refl _).alloc _))).mono ?_
    rintro e w5 ⟨rfl, hk5⟩
    have z0 := hk5.cell (a := ⟨w4.heap.size, 0, none⟩) (v := .int .u8 0) (by simp [go_sem])
    have z1 := hk5.cell (a := ⟨w4.heap.size, 1, none⟩) (v := .int .u32 0) (by simp [go_sem])
    have hk45 : Keeps w4 w5 := ((Keeps.refl _).alloc _).trans hk5
    replace v0 := hk45.cell v0
    replace v1 := hk45.cell v1
    replace p0 := hk45.cell p0
    replace p1 := hk45.cell p1
    have hk25 := hk24.trans hk45
    have l5 : w.heap.size < w5.heap.size := lt_of_cell v0
    go_wp2_with fail
    refine (HM.out _ hk25).mono ?_
    rintro e w6 ⟨rfl, hk6⟩
    replace p0 := hk6.cell p0
    replace p1 := hk6.cell p1
    replace z0 := hk6.cell z0
    replace z1 := hk6.cell z1
    have hk26 := hk25.trans hk6
    clear hk24 hk25 hk34 hk45 hk3 hk4 hk5 hk6 v0 v1 y0 y1
    go_wp2_with (first | (go_at_call 30; refine (HSm.out _ hk26).mono ?_; rintro e w7 ⟨rfl, hk7⟩) | fail)
    go_ret
    exact ⟨rfl, by have q := HKW.out; (exact kp)⟩

theorem convertMeans_walk (n : Int) (a : Option Addr) (len cap : Nat) (rs : List Rec) (f : Int) (v : Edge) (g : Int) (w : World) (_ : (Lit.int .i64 n).wf = true) (hrs : IsRecs w a len rs) (_ : (Lit.int .u8 f).wf = true) (hv : v.ok) (_ : (Lit.int .u8 g).wf = true) :
    Calls Tryz.prog 5 #[.int .i64 n, .slice a len cap, .int .u8 f, .agg #[.int .u8 v.tag, .int .u32 v.to], .int .u8 g] w fun e w' => e = .returned (.bool true) ∧ Keeps w w' := by
  by_cases h : 40 < len ∨ n < 0 ∨ 6 < n
  · exact convertMeans_out n f g a len cap v w h
  · exact convertMeans_in n f g a len cap rs v w hv (by omega) (by omega) (by omega) hrs

set_option maxRecDepth 100000 in
theorem convertMeans_lifted (os : Os) (started : os.Started) (H : Type) (enc : TypeId × Value → H) :
    ReturnsInHanded {} Tryz.checked os 5 .any (Rows.convertMeansSpec.pre6 enc Tryz.prog Tryz.f5 Rows.convertMeansRow.domain false) (Rows.convertMeansSpec.post enc Tryz.prog Tryz.f5 false true false false) := by
  refine returnsInHanded_of_change (C := Tryz.checked) own started (by kernel_rfl) Tryz.func5
    (ChangeSpec.witness6 (enc := enc) (C := Tryz.checked) false ⟨#[], #[.int .i64 0, .slice none 0 0, .int .u8 0, .agg #[.int .u8 0, .int .u32 0], .int .u8 0], []⟩ 12 (by kernel_rfl) (by kernel_rfl) (by kernel_rfl) (by kernel_rfl)) ?_
  intro W base args ds gs before hval0 hW hcnd _
  have hval : ∀ (j : Nat) t v, Tryz.f5.params[j]? = some t → args[j]? = some v → Value.okWide Tryz.prog W .any base t v := hval0
  have hW' := hW
  obtain ⟨p, q, hA0, hV, rfl, hfz, hnd⟩ := hW
  have hA : DataW.TrodAll enc Tryz.prog W 0 (fun _ => true) true Tryz.f5.params.toList args.toList ds p := hA0
  rw [Tryz.params5] at hA hval
  have hAk := hA
  obtain ⟨v0, vs0, d0, ds0, p0, q0, hargs, rfl, rfl, h0, r0⟩ := trodAll_cons hA
  obtain ⟨v1, vs1, d1, ds1, p1, q1, rfl, rfl, rfl, h1, r1⟩ := trodAll_cons r0
  obtain ⟨v2, vs2, d2, ds2, p2, q2, rfl, rfl, rfl, h2, r2⟩ := trodAll_cons r1
  obtain ⟨v3, vs3, d3, ds3, p3, q3, rfl, rfl, rfl, h3, r3⟩ := trodAll_cons r2
  obtain ⟨v4, vs4, d4, ds4, p4, q4, rfl, rfl, rfl, h4, r4⟩ := trodAll_cons r3
  obtain ⟨rfl, rfl, rfl⟩ := trodAll_nil r4
  obtain rfl : args = #[v0, v1, v2, v3, v4] := by cases args; simp_all
  obtain ⟨rfl, rfl⟩ := trodVars_none hV
  obtain ⟨a0, rfl, rfl, rfl, w0⟩ := open_int Tryz.underlying3 (hval 0 3 v0 rfl rfl) h0
  obtain ⟨a1, len1, cap1, rfl⟩ := okWide_slice Tryz.underlying51 (hval 1 51 v1 rfl rfl)
  obtain ⟨rs1, w1⟩ := open_recs h1
  obtain ⟨a2, rfl, rfl, rfl, w2⟩ := open_int Tryz.underlying5 (hval 2 5 v2 rfl rfl) h2
  obtain ⟨a3, w3, rfl⟩ := open_edge (hval 3 31 v3 rfl rfl) h3
  obtain ⟨a4, rfl, rfl, rfl, w4⟩ := open_int Tryz.underlying5 (hval 4 5 v4 rfl rfl) h4
  clear hA0 hval0
  refine (convertMeans_walk a0 a1 len1 cap1 rs1 a2 a3 a4 W w0 w1 w2 w3 w4).mono fun e W' ⟨he, bel⟩ => ?_
  subst he
  exact ⟨_, rfl, _, _, _, [], _, [], hW', trodAll_mk1 (shut_bool Tryz.underlying4 _), trodAll_below laidOut bel _ _ _ _ (by kernel_rfl) hAk, rfl, Below.frame bel _, fun h => by cases h⟩

theorem convertMeans_over : Rows.convertMeansRow.holds Tryz.pinned (OpenSpec.ofChange Rows.convertMeansSpec) :=
  OpenClaim.holds_of_wide 5 Tryz.f5 rfl rfl rfl rfl rfl rfl rfl ⟨rfl, rfl, rfl, rfl, rfl⟩ rfl rfl rfl rfl rfl (by kernel_rfl) Tryz.func5 (by kernel_rfl)
    (of_decide_eq_true (by kernel_rfl)) (by unfold Func.isWrapper; first | (rw [if_pos (by decide +kernel)]; kernel_rfl) | (rw [if_neg (by decide +kernel)]; exact ⟨rfl, rfl⟩))
    (fun os started H enc _ => convertMeans_lifted os started H enc)

theorem convertMeans_proved : Rows.ConvertMeansSaid := convertMeans_over

end Go.Proofs.YtiacdpoldgfpbaaGreat
