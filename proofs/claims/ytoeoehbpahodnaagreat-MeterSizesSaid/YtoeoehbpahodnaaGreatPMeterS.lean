/-
  meter.Sizes: how many nodes a set's diagrams have, form by form.
-/
import Derived.Test.YtoeoehbpahodnaaGreatPBuildO
namespace Go.Proofs.YtoeoehbpahodnaaGreat
set_option linter.unusedSimpArgs false
set_option linter.unusedVariables false
set_option maxHeartbeats 600000
open Go.RowKit

def sizesL (k : Nat) (bs : List Bool) : List Int := (List.range 5).map (fun i : Nat => (termN ((i : Int) + 1) k bs : Int))

theorem sizesL_get {k : Nat} {bs : List Bool} {f : Nat} (h1 : 1 ≤ f) (h5 : f ≤ 5) : (sizesL k bs)[f - 1]? = some (termN (f : Int) k bs : Int) := by
  unfold sizesL
  rw [List.getElem?_map, List.getElem?_range (by omega)]
  simp only [Option.map_some]
  congr 3
  omega

theorem sizesL_len (k : Nat) (bs : List Bool) : (sizesL k bs).length = 5 := by unfold sizesL; simp

theorem BuiltAt.made {f : Int} {M : St} {has : Nat → Bool} {ps : List Int} {x : Edge} (h : BuiltAt f M has ps 0 0 x) : MadeAt f M (bldT has ps 0) ps.length 0 0 x := by
  refine ⟨?_, h.2⟩
  rw [List.drop_zero, List.take_of_length_le (by rw [bldT_len]; exact Nat.le_refl _)]
  exact h.1

set_option maxRecDepth 100000 in
theorem sizes_nil (v : Value) (n : Int) (a : Option Addr) (len cap : Nat) (w : World) (hv : v = .agg #[.int .i64 n, .slice a len cap]) : Calls Tryz.prog 14 #[.pointer none, v] w fun e w' => e = .returned (.tuple #[.slice none 0 0, .int .u8 2]) ∧ Keeps w w' := by
  subst hv
  go_enter Tryz.func14, Tryz.ntmps14
  go_wp2
  go_ret2
  exact ⟨rfl, by (exact kp)⟩

set_option maxRecDepth 100000 in
set_option maxHeartbeats 4000000 in
theorem sizes_calls {Fo : Nat → Prop} {w : World} {ob : Nat} {ps ws : List Int} (ho : OrdRep Fo w ob ps) (h6 : ps.length ≤ 6) (aw : Option Addr) (len cap : Nat) (hl : ws.length = len) (hl2 : len ≤ 1048576) (hW : WordsAt w aw ws) (hok : setOkB (ps.length : Int) ws = true) :
    Calls Tryz.prog 14 #[.pointer (some ⟨ob, 0, none⟩), .agg #[.int .i64 (ps.length : Int), .slice aw len cap]] w fun e w' => ∃ a' cap', e = .returned (.tuple #[.slice a' 5 cap', .int .u8 0]) ∧ IntsAt w' a' (sizesL ps.length (bldT (hasB ws) ps 0)) ∧ Keeps w w' := by
  have hvr := fun (W : World) (hk : Keeps w W) => ordVars_calls (ho.keeps hk)
  have hnw := fun (W : World) => store_new (ps.length : Int) 1048576 W (by omega) (by omega) (by omega) (by omega)
  have hp64 : 2 ^ ps.length ≤ 64 := by
    have h1 : 2 ^ ps.length ≤ 2 ^ 6 := Nat.pow_le_pow_right (by decide) h6
    exact h1
  have hw0 : 0 < ws.length := by have := (setOkB_iff.1 hok).2.1; omega
  have hof := fun (f : Nat) (hf1 : 1 ≤ f) (hf5 : f ≤ 5) (W W0 : World) (sb : Nat) (F : Nat → Prop) (hk0 : Keeps w W0) (hk : Keeps W0 W) (hF : ∀ k, F k → W0.heap.size ≤ k) (h : StoreRep F W sb (St.new (ps.length : Int) 1048576)) => by
    have hkw := hk0.trans hk
    have s0 := hk0.size
    exact buildOf_calls h (ho.keeps hkw) (fun k h1 h2 => by have := hF k h1; have := ho.lt k h2; omega) rfl (f : Int) (by simp [isFormB]; omega) aw len cap hl hl2 (hW.keeps hkw) (fun b off hb hh => by
      obtain ⟨x, hx⟩ : ∃ x, ws[0]? = some x := ⟨_, List.getElem?_eq_getElem hw0⟩
      obtain ⟨_, b2, off2, ha, hc⟩ := hW 0 x hx
      rw [hb] at ha
      cases ha
      have h1 := lt_of_cell hc
      dsimp only at h1
      have := hF b hh
      omega) hok (by
      show (0 : Int) + _ ≤ 1048576
      omega)
  have hsz := fun (f : Nat) (hf1 : 1 ≤ f) (hf5 : f ≤ 5) (F : Nat → Prop) (W : World) (sb : Nat) (M : St) (x : Edge) (r : StoreRep F W sb M) (hn : M.n = (ps.length : Int)) (hb : BuiltAt (f : Int) M (hasB ws) ps 0 0 x) (hx : x.ok) (W2 : World) (hk2 : Keeps W W2) => by
    obtain ⟨c1, c2, c3⟩ := made_count r (f := (f : Int)) (by omega) h6 (by omega) (bldT_len (hasB ws) ps 0) hb.made hx
    have := csize_calls (r.keeps hk2) (f : Int) x 0 hx
    rw [c3] at this
    simp only [if_true] at this
    rw [c2] at this
    exact this
  have hget := fun (f : Nat) (hf1 : 1 ≤ f) (hf5 : f ≤ 5) => sizesL_get (k := ps.length) (bs := bldT (hasB ws) ps 0) hf1 hf5
  have hslen := sizesL_len ps.length (bldT (hasB ws) ps 0)
  obtain ⟨bs, hbs⟩ : ∃ bs, bs = bldT (hasB ws) ps 0 := ⟨_, rfl⟩
  rw [← hbs] at hsz hget hslen ⊢
  obtain ⟨n, hnn⟩ : ∃ n, n = ps.length := ⟨_, rfl⟩
  rw [← hnn] at hvr hnw hof hsz hget hslen h6 ⊢
  obtain ⟨zs, hzs⟩ : ∃ zs, zs = sizesL n bs := ⟨_, rfl⟩
  rw [← hzs] at hget hslen ⊢
  obtain ⟨i0, hi, hz0, hz1, hz2⟩ := info_parts info_int
  have HVR := Lib.hid hvr
  have HNW := Lib.hid hnw
  have HOF := Lib.hid hof
  have HSZ := Lib.hid hsz
  have HGT := Lib.hid hget
  have HSL := Lib.hid hslen
  have hbox : ∀ k, Fo k → k < w.heap.size := ho.lt
  clear ho hl hW hok hvr hnw hof hsz hget hslen hnn hzs hbs hp64 hw0
  go_enter Tryz.func14, Tryz.ntmps14
  go_wp2_with fail
  obtain ⟨W1, hW1⟩ : ∃ W1, W1 = w.alloc (.cells #[.int .i64 (n : Int), .slice aw len cap] 25) := ⟨_, rfl⟩
  rw [← hW1]
  have kW1 : Keeps w W1 := by rw [hW1]; exact (Keeps.refl _).alloc _
  have b0 : W1.cell? ⟨w.heap.size, 0, none⟩ = some (.int .i64 (n : Int)) := by rw [hW1]; simp [go_sem]
  have b1 : W1.cell? ⟨w.heap.size, 1, none⟩ = some (.slice aw len cap) := by rw [hW1]; simp [go_sem]
  clear hW1
  go_loopg [6, 7, 8, 9, 10, 11] 5 (fun gk s6 s7 s8 s9 s10 s11 wr => ∃ (f : Nat) (v : Value), f + gk = 6 ∧ 1 ≤ f ∧ s7 = .int .u8 (f : Int) ∧ s6 = v ∧ wr.ownsRow W1.heap.size 3 1 v (f - 1) ((zs.take (f - 1)).map (Value.int .i64)) ∧ Keeps W1 wr)
  case atStart => exact ⟨1, .slice none 0 0, rfl, by omega, rfl, rfl, World.ownsRow_nil _ _ _ _, Keeps.refl _⟩
  case round =>
    obtain ⟨f, v, hfg, hf1, rfl, rfl, hown, hk⟩ := hrel
    obtain ⟨la, lcap, rfl, -⟩ := owns_slice hown
    have HOW := Lib.hid hown
    clear hown
    have c0 := hk.cell b0
    have c1 := hk.cell b1
    have hkw := kW1.trans hk
    by_cases hf5 : f ≤ 5
    · go_wp2_with fail
      refine (HVR.out _ hkw).mono ?_
      rintro e w2 ⟨rfl, rfl⟩
      go_wp2_with fail
      refine (HNW.out _).mono ?_
      rintro e w3 ⟨sb, F, rfl, hk3, hF, hS⟩
      have HO1 := Lib.hid (HOF.out f hf1 hf5 w3 wr sb F hkw hk3 hF hS)
      replace c0 := hk3.cell c0
      replace c1 := hk3.cell c1
      have hbl : w.heap.size < w3.heap.size := by have := lt_of_cell c0; exact this
      have HF := Lib.hid hF
      have HS := Lib.hid hS
      clear hF hS
      go_wp2_with fail
      refine HO1.out.mono ?_
      rintro e w4 ⟨x, M', rfl, hxok, hbt, ⟨hgr, -⟩, hst⟩
      have hk34 : Keeps wr w4 := hk3.new hst.upd (fun k hk => HF.out k hk)
      obtain ⟨⟨F4, r4, sub4⟩, u4⟩ := hst
      have hsz4 := HSZ.out f hf1 hf5 F4 w4 sb M' x r4 (by rw [hgr.ext.n]; rfl) hbt hxok
      obtain ⟨z, hz⟩ : ∃ z : Nat, z = termN (f : Int) n bs := ⟨_, rfl⟩
      have hzg := HGT.out f hf1 hf5
      rw [← hz] at hsz4 hzg
      have HSZ4 := Lib.hid hsz4
      have HZG := Lib.hid hzg
      have hkk4 := hk.trans hk34
      clear hsz4 hzg r4 sub4 u4 hbt hgr hz
      go_wp2_with fail
      refine (HSZ4.out _ (by (exact kp))).mono ?_
      rintro e w5 ⟨rfl, hk5⟩
      have hkr5 : Keeps wr w5 := (hk34.alloc _).trans hk5
      have hkk5 : Keeps W1 w5 := hk.trans hkr5
      have hOW5 := Keeps.owns hkr5 HOW.out
      have HOW5 := Lib.hid hOW5
      have s5 := hkk5.size
      have q1 : f - 1 + 1 ≤ maxLen := by unfold maxLen; omega
      have q2 : (f - 1 + 1) * 8 ≤ 140737488355328 := by omega
      clear hOW5 hkr5 hk5 hkk4 hk34
      go_upto_region 16 with fail
      go_wp2_with (first
        | (at_builtin; refine wpList_append_own _ rfl _ _ 22 rfl W1.heap.size 3 i0 (.int .i64 0) 1 8 Tryz.underlying22 hi hz0 hz1 hz2 rfl (by decide) (.slice la (f - 1) lcap) (f - 1) ((zs.take (f - 1)).map (Value.int .i64)) rfl (HOW5.out.alloc _) ⟨w5.heap.size, 0, none⟩ 1 1 [.int .i64 (z : Int)] rfl rfl (cell_new _ _ _ _ rfl) (by simp [Value.oneCell']) (by exact q1) (by exact q2) (by simp; omega) ?_; intro v3 w6 hown3 hg3 _)
        | fail)
      obtain ⟨lb, lcap2, rfl, -⟩ := owns_slice hown3
      have hu3 : Upd (fun k => (Value.slice la (f - 1) lcap).ownBlock = some k) w5 w6 := Upd.grown (by repeat (first | exact Upd.refl _ _ | refine Upd.alloc ?_ _ | refine Upd.drew ?_)) hg3 (fun k hk => .inl hk)
      have hk6 : Keeps W1 w6 := hkk5.new hu3 (fun k hk2 => by
        rcases HOW5.out.2 with ⟨e0, _⟩ | ⟨g', cap', cur, e0, hbg, _⟩
        · rw [e0] at hk2; simp [Value.ownBlock] at hk2
        · rw [e0] at hk2; simp [Value.ownBlock] at hk2; omega)
      have HO6 := Lib.hid hown3
      clear hown3 hg3 hu3
      go_wp2_with fail
      go_roundg (gk - 1)
      case rel => exact ⟨f + 1, _, by omega, by omega, by simp, rfl, by
        have := HO6.out
        rw [show f + 1 - 1 = f - 1 + 1 by omega, take_snoc HZG.out, List.map_append]
        exact this, hk6⟩
      case measure => omega
    · have hf6 : f = 6 := by omega
      subst hf6
      have hO := HOW.out
      rw [List.take_of_length_le (by rw [HSL.out]; omega)] at hO
      have HO := Lib.hid hO
      clear hO
      go_wp2_with fail
      go_ret2
      refine ⟨la, lcap, rfl, fun i x hx => ?_, hkw⟩
      have hi5 : i < 5 := by have := (List.getElem?_eq_some_iff.1 hx).1; rw [HSL.out] at this; exact this
      obtain ⟨a0, cp0, e0, hs0⟩ := owns_slice HO.out
      cases e0
      obtain ⟨g, rfl⟩ := hs0 (by omega)
      exact (rowI_owns HO.out).1.ints i x hx

end Go.Proofs.YtoeoehbpahodnaaGreat
