/-
  Proved: the statement MeterSizes, for every input.
-/
import Derived.Test.YtoeoehbpahodnaaGreatPMeterO
import Derived.Test.YtoeoehbpahodnaaGreatPRSizesxB
import Derived.Test.YtoeoehbpahodnaaGreatPSizesPxB
import Derived.Test.YtoeoehbpahodnaaGreatRows
namespace Go.Proofs.YtoeoehbpahodnaaGreat
set_option linter.unusedSimpArgs false
set_option linter.unusedVariables false
set_option maxHeartbeats 600000
open Go.ChangeShapes Go.WideShapes Go.ChangeAt Go.RowKit

set_option maxRecDepth 100000 in
theorem meterSizes_out (a0 : Option Addr) (len0 cap0 : Nat) (n : Int) (aw : Option Addr) (len cap : Nat) (w : World) (h : 6 < len0 ∨ 2000 < len) :
    Calls Tryz.prog 3 #[.slice a0 len0 cap0, .agg #[.int .i64 n, .slice aw len cap]] w fun e w' => e = .returned (.bool true) ∧ Keeps w w' := by
  by_cases h1 : 6 < len0
  · clear h
    go_enter Tryz.func3, Tryz.ntmps3
    go_wp2_with fail
    refine (l21_alive _).mono ?_
    rintro e w1 ⟨rfl, hk1⟩
    go_wp2_with fail
    go_ret
    exact ⟨rfl, by (exact kp)⟩
  · have h2 : 2000 < len := by omega
    clear h
    go_enter Tryz.func3, Tryz.ntmps3
    go_wp2_with fail
    refine (l21_alive _).mono ?_
    rintro e w1 ⟨rfl, hk1⟩
    have t1 := hk1.cell (a := ⟨w.heap.size, 1, none⟩) (v := .slice aw len cap) (by simp [go_sem])
    go_wp2_with fail
    go_ret
    exact ⟨rfl, by (exact kp)⟩

set_option maxRecDepth 100000 in
set_option maxHeartbeats 4000000 in
theorem meterSizes_in (a0 : Option Addr) (cap0 : Nat) (ps : List Int) (n : Int) (aw : Option Addr) (len cap : Nat) (ws : List Int) (w : World) (h6 : ps.length ≤ 6) (hl2 : len ≤ 2000) (hI : IntsAt w a0 ps) (hW : IsWords w aw len ws) :
    Calls Tryz.prog 3 #[.slice a0 ps.length cap0, .agg #[.int .i64 n, .slice aw len cap]] w fun e w' => e = .returned (.bool true) ∧ Keeps w w' := by
  obtain ⟨hwl, hW⟩ := hW
  have hrg := fun (W : World) (hk : Keeps w W) => refRight_calls a0 cap0 ps W (hI.keeps hk) (by omega)
  have hof := fun (W : World) (hk : Keeps w W) => orderOf_calls a0 cap0 ps W (hI.keeps hk) (by omega)
  have hrs := fun (W : World) (hk : Keeps w W) => refSet_calls n aw len cap ws W hwl (by omega) (hW.keeps hk)
  cases hp : permB ps with
  | false =>
    rw [hp] at hrg
    simp only [hp, Bool.false_eq_true, if_false] at hof
    obtain ⟨K, hK⟩ : ∃ K, K = ps.length := ⟨_, rfl⟩
    rw [← hK] at hrg hof h6 ⊢
    have HRG := Lib.hid hrg
    have HOF := Lib.hid hof
    clear hrg hof hrs hp hK hI hW hwl
    go_enter Tryz.func3, Tryz.ntmps3
    go_wp2_with fail
    refine (l21_alive _).mono ?_
    rintro e w1 ⟨rfl, hk1⟩
    have t0 := hk1.cell (a := ⟨w.heap.size, 0, none⟩) (v := .int .i64 n) (by simp [go_sem])
    have t1 := hk1.cell (a := ⟨w.heap.size, 1, none⟩) (v := .slice aw len cap) (by simp [go_sem])
    have kw1 : Keeps w w1 := ((Keeps.refl w).alloc _).trans hk1
    clear hk1
    go_wp2_with fail
    refine (HOF.out _ kw1).mono ?_
    rintro e w2 ⟨hk2, rfl⟩
    replace t0 := hk2.cell t0
    replace t1 := hk2.cell t1
    have kw2 := kw1.trans hk2
    have hbl : w.heap.size < w2.heap.size := by have := lt_of_cell t0; exact this
    go_wp2_with fail
    refine (sizes_nil _ n aw len cap _ rfl).mono ?_
    rintro e w3 ⟨rfl, hk3⟩
    have kw3 := kw2.trans hk3
    go_wp2_with fail
    refine (HRG.out _ kw3).mono ?_
    rintro e w4 ⟨rfl, rfl⟩
    go_wp2_with fail
    go_ret
    exact ⟨rfl, kw3⟩
  | true =>
    rw [hp] at hrg
    simp only [hp, if_true] at hof
    by_cases hgood : n = (ps.length : Int) ∧ setOkB n ws = true
    · obtain ⟨rfl, hok⟩ := hgood
      rw [hok] at hrs
      have hsz := fun (Fo : Nat → Prop) (ob : Nat) (W : World) (hk : Keeps w W) (ho : OrdRep Fo W ob ps) => sizes_calls ho h6 aw len cap hwl (by omega) (hW.keeps hk) hok
      have htb := fun (W : World) (hk : Keeps w W) => setTable_calls ps.length aw len cap ws W hwl (hW.keeps hk) hok
      have hs21 := fun (at' : Option Addr) (capt : Nat) (W : World) (hk : Keeps w W) (hT : BoolsIn W at' (setT ps.length ws)) => sizes21_calls a0 cap0 ps ws at' capt W (hI.keeps hk) hp h6 hT
      have hle := sizes_le (k := ps.length) h6 (bldT_len (hasB ws) ps 0)
      have hsl := sizesL_len ps.length (bldT (hasB ws) ps 0)
      have hg1 := sizesL_get (k := ps.length) (bs := bldT (hasB ws) ps 0) (f := 1) (by omega) (by omega)
      have hg2 := sizesL_get (k := ps.length) (bs := bldT (hasB ws) ps 0) (f := 2) (by omega) (by omega)
      have hg3 := sizesL_get (k := ps.length) (bs := bldT (hasB ws) ps 0) (f := 3) (by omega) (by omega)
      have hg4 := sizesL_get (k := ps.length) (bs := bldT (hasB ws) ps 0) (f := 4) (by omega) (by omega)
      have hg5 := sizesL_get (k := ps.length) (bs := bldT (hasB ws) ps 0) (f := 5) (by omega) (by omega)
      obtain ⟨zs, hzs⟩ : ∃ zs, zs = sizesL ps.length (bldT (hasB ws) ps 0) := ⟨_, rfl⟩
      rw [← hzs] at hsl hg1 hg2 hg3 hg4 hg5
      simp only [← hzs] at hsz hs21
      obtain ⟨z1, e1⟩ : ∃ z, z = termN (1 : Nat) ps.length (bldT (hasB ws) ps 0) := ⟨_, rfl⟩
      obtain ⟨z2, e2⟩ : ∃ z, z = termN (2 : Nat) ps.length (bldT (hasB ws) ps 0) := ⟨_, rfl⟩
      obtain ⟨z3, e3⟩ : ∃ z, z = termN (3 : Nat) ps.length (bldT (hasB ws) ps 0) := ⟨_, rfl⟩
      obtain ⟨z4, e4⟩ : ∃ z, z = termN (4 : Nat) ps.length (bldT (hasB ws) ps 0) := ⟨_, rfl⟩
      obtain ⟨z5, e5⟩ : ∃ z, z = termN (5 : Nat) ps.length (bldT (hasB ws) ps 0) := ⟨_, rfl⟩
      rw [← e1] at hg1
      rw [← e2] at hg2
      rw [← e3] at hg3
      rw [← e4] at hg4
      rw [← e5] at hg5
      have b31 : (z3 : Int) ≤ (z1 : Int) := by rw [e3, e1]; exact_mod_cast hle.1
      have b42 : (z4 : Int) ≤ (z2 : Int) := by rw [e4, e2]; exact_mod_cast hle.2.1
      have b51 : (z5 : Int) ≤ (z1 : Int) := by rw [e5, e1]; exact_mod_cast hle.2.2.1
      have b52 : (z5 : Int) ≤ (z2 : Int) := by rw [e5, e2]; exact_mod_cast hle.2.2.2
      have hin := fun (x y : Option Addr) (c d : Nat) (W : World) (h1 : IntsAt W x zs) (h2 : IntsAt W y zs) => by
        have := ints_calls x y c d zs zs W h1 h2 (by omega) (by omega)
        rw [decide_eq_true rfl, hsl] at this
        exact this
      obtain ⟨p, hpp⟩ : ∃ p, p = 2 ^ ps.length := ⟨_, rfl⟩
      rw [← hpp] at htb
      simp only [← hpp] at hs21
      obtain ⟨S, hSS⟩ : ∃ S, S = setT ps.length ws := ⟨_, rfl⟩
      rw [← hSS] at htb
      simp only [← hSS] at hs21
      obtain ⟨K, hK⟩ : ∃ K, K = ps.length := ⟨_, rfl⟩
      rw [← hK] at hrg hof hrs htb h6 ⊢
      simp only [← hK] at hsz hs21
      have HRG := Lib.hid hrg
      have HOF := Lib.hid hof
      have HRS := Lib.hid hrs
      have HSZ := Lib.hid hsz
      have HTB := Lib.hid htb
      have HS21 := Lib.hid hs21
      have HIN := Lib.hid hin
      have HG1 := Lib.hid hg1
      have HG2 := Lib.hid hg2
      have HG3 := Lib.hid hg3
      have HG4 := Lib.hid hg4
      have HG5 := Lib.hid hg5
      clear hrg hof hrs hsz htb hs21 hin hg1 hg2 hg3 hg4 hg5 hle hsl hzs e1 e2 e3 e4 e5 hp hpp hSS hK hok hI hW hwl
      go_enter Tryz.func3, Tryz.ntmps3
      go_wp2_with fail
      refine (l21_alive _).mono ?_
      rintro e w1 ⟨rfl, hk1⟩
      have t0 := hk1.cell (a := ⟨w.heap.size, 0, none⟩) (v := .int .i64 (K : Int)) (by simp [go_sem])
      have t1 := hk1.cell (a := ⟨w.heap.size, 1, none⟩) (v := .slice aw len cap) (by simp [go_sem])
      have kw1 : Keeps w w1 := ((Keeps.refl w).alloc _).trans hk1
      clear hk1
      go_wp2_with fail
      refine (HOF.out _ kw1).mono ?_
      rintro e w2 ⟨hk2, ob, Fo, rfl, hO, -⟩
      replace t0 := hk2.cell t0
      replace t1 := hk2.cell t1
      have kw2 := kw1.trans hk2
      have hbl : w.heap.size < w2.heap.size := by have := lt_of_cell t0; exact this
      have HS2 := Lib.hid (HSZ.out Fo ob w2 kw2 hO)
      clear hO
      go_wp2_with fail
      refine HS2.out.mono ?_
      rintro e w3 ⟨al, cl, rfl, hIl, hk3⟩
      have HIL := Lib.hid hIl
      replace t0 := hk3.cell t0
      replace t1 := hk3.cell t1
      have kw3 := kw2.trans hk3
      have hbl3 : w.heap.size < w3.heap.size := by have := lt_of_cell t0; exact this
      clear hIl
      go_wp2_with fail
      refine (HRG.out _ kw3).mono ?_
      rintro e w4 ⟨rfl, rfl⟩
      go_wp2_with fail
      refine (HRS.out _ kw3).mono ?_
      rintro e w5 ⟨rfl, hk5⟩
      replace t0 := hk5.cell t0
      replace t1 := hk5.cell t1
      have kw5 := kw3.trans hk5
      have hbl5 : w.heap.size < w5.heap.size := by have := lt_of_cell t0; exact this
      go_wp2_with fail
      refine (HTB.out _ kw5).mono ?_
      rintro e w6 ⟨at', ct, rfl, hT, hk6⟩
      have kw6 := kw5.trans hk6
      have HS6 := Lib.hid (HS21.out at' ct w6 kw6 hT)
      clear hT
      go_wp2_with fail
      refine HS6.out.mono ?_
      rintro e w7 ⟨a7, c7, rfl, hI7, hk7⟩
      have hk37 := (hk5.trans hk6).trans hk7
      have kw7 := kw6.trans hk7
      have HN7 := Lib.hid (HIN.out al a7 cl c7 w7 (HIL.out.keeps hk37) hI7)
      clear hI7
      go_wp2_with fail
      refine HN7.out.mono ?_
      rintro e w8 ⟨rfl, hk8⟩
      have kw8 := kw7.trans hk8
      have hk38 := hk37.trans hk8
      obtain ⟨b, off, rfl, y1⟩ := (HIL.out.keeps hk38) 0 _ HG1.out
      obtain ⟨_, _, e2, y2⟩ := (HIL.out.keeps hk38) 1 _ HG2.out
      cases e2
      obtain ⟨_, _, e3, y3⟩ := (HIL.out.keeps hk38) 2 _ HG3.out
      cases e3
      obtain ⟨_, _, e4, y4⟩ := (HIL.out.keeps hk38) 3 _ HG4.out
      cases e4
      obtain ⟨_, _, e5, y5⟩ := (HIL.out.keeps hk38) 4 _ HG5.out
      cases e5
      rw [Nat.add_zero] at y1
      clear hk3 hk5 hk6 hk7 hk8 hk37 hk38 t0 t1
      go_wp2_with fail
      go_quiet (fail)
      go_wp2_with fail
      go_ret
      exact ⟨rfl, by (exact kp)⟩
    · have hbad := fun (Fo : Nat → Prop) (ob : Nat) (W : World) (hk : Keeps w W) (ho : OrdRep Fo W ob ps) => sizes_bad ho n aw len cap hwl (by omega) (hW.keeps hk) hgood
      obtain ⟨K, hK⟩ : ∃ K, K = ps.length := ⟨_, rfl⟩
      rw [← hK] at hrg hof h6 hgood ⊢
      have HRG := Lib.hid hrg
      have HOF := Lib.hid hof
      have HBD := Lib.hid hbad
      clear hrg hof hbad hp hK hI hW hwl
      cases hb : setOkB n ws with
      | false =>
        rw [hb] at hrs
        have HRS := Lib.hid hrs
        clear hrs hb hgood
        go_enter Tryz.func3, Tryz.ntmps3
        go_wp2_with fail
        refine (l21_alive _).mono ?_
        rintro e w1 ⟨rfl, hk1⟩
        have t0 := hk1.cell (a := ⟨w.heap.size, 0, none⟩) (v := .int .i64 n) (by simp [go_sem])
        have t1 := hk1.cell (a := ⟨w.heap.size, 1, none⟩) (v := .slice aw len cap) (by simp [go_sem])
        have kw1 : Keeps w w1 := ((Keeps.refl w).alloc _).trans hk1
        clear hk1
        go_wp2_with fail
        refine (HOF.out _ kw1).mono ?_
        rintro e w2 ⟨hk2, ob, Fo, rfl, hO, -⟩
        replace t0 := hk2.cell t0
        replace t1 := hk2.cell t1
        have kw2 := kw1.trans hk2
        have hbl : w.heap.size < w2.heap.size := by have := lt_of_cell t0; exact this
        have HS2 := Lib.hid (HBD.out Fo ob w2 kw2 hO)
        clear hO
        go_wp2_with fail
        refine HS2.out.mono ?_
        rintro e w3 ⟨rfl, hk3⟩
        replace t0 := hk3.cell t0
        replace t1 := hk3.cell t1
        have kw3 := kw2.trans hk3
        have hbl3 : w.heap.size < w3.heap.size := by have := lt_of_cell t0; exact this
        go_wp2_with fail
        refine (HRG.out _ kw3).mono ?_
        rintro e w4 ⟨rfl, rfl⟩
        go_wp2_with fail
        refine (HRS.out _ kw3).mono ?_
        rintro e w5 ⟨rfl, hk5⟩
        go_wp2_with fail
        go_ret
        exact ⟨rfl, kw3.trans hk5⟩
      | true =>
        have hne : ¬ n = (K : Int) := fun e => hgood ⟨e, hb⟩
        rw [hb] at hrs
        have HRS := Lib.hid hrs
        clear hrs hb hgood
        go_enter Tryz.func3, Tryz.ntmps3
        go_wp2_with fail
        refine (l21_alive _).mono ?_
        rintro e w1 ⟨rfl, hk1⟩
        have t0 := hk1.cell (a := ⟨w.heap.size, 0, none⟩) (v := .int .i64 n) (by simp [go_sem])
        have t1 := hk1.cell (a := ⟨w.heap.size, 1, none⟩) (v := .slice aw len cap) (by simp [go_sem])
        have kw1 : Keeps w w1 := ((Keeps.refl w).alloc _).trans hk1
        clear hk1
        go_wp2_with fail
        refine (HOF.out _ kw1).mono ?_
        rintro e w2 ⟨hk2, ob, Fo, rfl, hO, -⟩
        replace t0 := hk2.cell t0
        replace t1 := hk2.cell t1
        have kw2 := kw1.trans hk2
        have hbl : w.heap.size < w2.heap.size := by have := lt_of_cell t0; exact this
        have HS2 := Lib.hid (HBD.out Fo ob w2 kw2 hO)
        clear hO
        go_wp2_with fail
        refine HS2.out.mono ?_
        rintro e w3 ⟨rfl, hk3⟩
        replace t0 := hk3.cell t0
        replace t1 := hk3.cell t1
        have kw3 := kw2.trans hk3
        have hbl3 : w.heap.size < w3.heap.size := by have := lt_of_cell t0; exact this
        go_wp2_with fail
        refine (HRG.out _ kw3).mono ?_
        rintro e w4 ⟨rfl, rfl⟩
        go_wp2_with fail
        refine (HRS.out _ kw3).mono ?_
        rintro e w5 ⟨rfl, hk5⟩
        replace t0 := hk5.cell t0
        replace t1 := hk5.cell t1
        go_wp2_with fail
        go_ret
        exact ⟨rfl, kw3.trans hk5⟩

theorem meterSizes_walk (a0 : Option Addr) (len0 cap0 : Nat) (ps : List Int) (n : Int) (aw : Option Addr) (len cap : Nat) (ws : List Int) (w : World) (hp : IsInts w a0 len0 ps) (hs : IsSet w n aw len ws) :
    Calls Tryz.prog 3 #[.slice a0 len0 cap0, .agg #[.int .i64 n, .slice aw len cap]] w fun e w' => e = .returned (.bool true) ∧ Keeps w w' := by
  by_cases h : 6 < len0 ∨ 2000 < len
  · exact meterSizes_out a0 len0 cap0 n aw len cap w h
  obtain ⟨rfl, hI, -⟩ := hp
  exact meterSizes_in a0 cap0 ps n aw len cap ws w (by omega) (by omega) hI hs.2

set_option maxRecDepth 100000 in
theorem meterSizes_lifted (os : Os) (started : os.Started) (H : Type) (enc : TypeId × Value → H) :
    ReturnsInHanded {} Tryz.checked os 3 .any (Rows.meterSizesSpec.pre6 enc Tryz.prog Tryz.f3 Rows.meterSizesRow.domain false) (Rows.meterSizesSpec.post enc Tryz.prog Tryz.f3 false true false false) := by
  refine returnsInHanded_of_change (C := Tryz.checked) own started (by kernel_rfl) Tryz.func3
    (ChangeSpec.witness6 (enc := enc) (C := Tryz.checked) false ⟨#[], #[.slice none 0 0, .agg #[.int .i64 0, .slice none 0 0]], []⟩ 12 (by kernel_rfl) (by kernel_rfl) (by kernel_rfl) (by kernel_rfl)) ?_
  intro W base args ds gs before hval0 hW hcnd _
  have hval : ∀ (j : Nat) t v, Tryz.f3.params[j]? = some t → args[j]? = some v → Value.okWide Tryz.prog W .any base t v := hval0
  have hW' := hW
  obtain ⟨p, q, hA0, hV, rfl, hfz, hnd⟩ := hW
  have hA : DataW.TrodAll enc Tryz.prog W 0 (fun _ => true) true Tryz.f3.params.toList args.toList ds p := hA0
  rw [Tryz.params3] at hA hval
  have hAk := hA
  obtain ⟨v0, vs0, d0, ds0, p0, q0, hargs, rfl, rfl, h0, r0⟩ := trodAll_cons hA
  obtain ⟨v1, vs1, d1, ds1, p1, q1, rfl, rfl, rfl, h1, r1⟩ := trodAll_cons r0
  obtain ⟨rfl, rfl, rfl⟩ := trodAll_nil r1
  obtain rfl : args = #[v0, v1] := by cases args; simp_all
  obtain ⟨rfl, rfl⟩ := trodVars_none hV
  obtain ⟨a0, len0, cap0, rfl⟩ := okWide_slice Tryz.underlying22 (hval 0 22 v0 rfl rfl)
  obtain ⟨rs0, w0⟩ := open_intRow h0
  obtain ⟨n1, a1, len1, cap1, rs1, w1, rfl⟩ := open_set (hval 1 25 v1 rfl rfl) h1
  clear hA0 hval0
  refine (meterSizes_walk a0 len0 cap0 rs0 n1 a1 len1 cap1 rs1 W w0 w1).mono fun e W' ⟨he, bel⟩ => ?_
  subst he
  exact ⟨_, rfl, _, _, _, [], _, [], hW', trodAll_mk1 (shut_bool Tryz.underlying4 _), trodAll_below laidOut bel _ _ _ _ (by kernel_rfl) hAk, rfl, Below.frame bel _, fun h => by cases h⟩

theorem meterSizes_over : Rows.meterSizesRow.holds Tryz.pinned (OpenSpec.ofChange Rows.meterSizesSpec) :=
  OpenClaim.holds_of_wide 3 Tryz.f3 rfl rfl rfl rfl rfl rfl rfl ⟨rfl, rfl, rfl, rfl, rfl⟩ rfl rfl rfl rfl rfl (by kernel_rfl) Tryz.func3 (by kernel_rfl)
    (of_decide_eq_true (by kernel_rfl)) (by unfold Func.isWrapper; first | (rw [if_pos (by decide +kernel)]; kernel_rfl) | (rw [if_neg (by decide +kernel)]; exact ⟨rfl, rfl⟩))
    (fun os started H enc _ => meterSizes_lifted os started H enc)

theorem meterSizes_proved : Rows.MeterSizesSaid := meterSizes_over

end Go.Proofs.YtoeoehbpahodnaaGreat
