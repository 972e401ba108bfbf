/-
  meter.Sizes: how many nodes a set's diagrams have, form by form.
-/
import Derived.Test.YtoeoehbpahodnaaGreatPBuildBxB
import Derived.Test.YtoeoehbpahodnaaGreatPMeterS
import Derived.Test.YtoeoehbpahodnaaGreatPRSetTxB
namespace Go.Proofs.YtoeoehbpahodnaaGreat
set_option linter.unusedSimpArgs false
set_option linter.unusedVariables false
set_option maxHeartbeats 600000
open Go.RowKit

set_option maxRecDepth 100000 in
set_option maxHeartbeats 2000000 in
theorem sizes_bad {Fo : Nat → Prop} {w : World} {ob : Nat} {ps ws : List Int} (ho : OrdRep Fo w ob ps) (nv : Int) (aw : Option Addr) (len cap : Nat) (hl : ws.length = len) (hl2 : len ≤ 1048576) (hW : WordsAt w aw ws) (hbad : ¬ (nv = (ps.length : Int) ∧ setOkB nv ws = true)) :
    Calls Tryz.prog 14 #[.pointer (some ⟨ob, 0, none⟩), .agg #[.int .i64 nv, .slice aw len cap]] w fun e w' => e = .returned (.tuple #[.slice none 0 0, .int .u8 1]) ∧ Keeps w w' := by
  have hp16 := ho.le
  have hvr := fun (W : World) (hk : Keeps w W) => ordVars_calls (ho.keeps hk)
  have hnw := fun (W : World) => store_new (ps.length : Int) 1048576 W (by omega) (by omega) (by omega) (by omega)
  have hof := fun (W : World) (sb : Nat) (F : Nat → Prop) (hk : Keeps w W) (h : StoreRep F W sb (St.new (ps.length : Int) 1048576)) => buildOf_bad h (ho.keeps hk) rfl 1 rfl nv aw len cap hl hl2 (hW.keeps hk) hbad
  obtain ⟨n, hnn⟩ : ∃ n, n = ps.length := ⟨_, rfl⟩
  rw [← hnn] at hvr hnw hof
  have HVR := Lib.hid hvr
  have HNW := Lib.hid hnw
  have HOF := Lib.hid hof
  clear ho hl hW hbad hvr hnw hof hp16 hnn
  go_enter Tryz.func14, Tryz.ntmps14
  go_wp2_with fail
  obtain ⟨W1, hW1⟩ : ∃ W1, W1 = w.alloc (.cells #[.int .i64 nv, .slice aw len cap] 25) := ⟨_, rfl⟩
  rw [← hW1]
  have kW1 : Keeps w W1 := by rw [hW1]; exact (Keeps.refl _).alloc _
  have b0 : W1.cell? ⟨w.heap.size, 0, none⟩ = some (.int .i64 nv) := by rw [hW1]; simp [go_sem]
  have b1 : W1.cell? ⟨w.heap.size, 1, none⟩ = some (.slice aw len cap) := by rw [hW1]; simp [go_sem]
  clear hW1
  go_loopg [6, 7, 8, 9, 10, 11] 1 (fun gk s6 s7 s8 s9 s10 s11 wr => s6 = .slice none 0 0 ∧ s7 = .int .u8 1 ∧ Keeps W1 wr)
  case atStart => exact ⟨rfl, rfl, Keeps.refl _⟩
  case round =>
    obtain ⟨rfl, rfl, hk⟩ := hrel
    have c0 := hk.cell b0
    have c1 := hk.cell b1
    have hkw := kW1.trans hk
    go_wp2_with fail
    refine (HVR.out _ hkw).mono ?_
    rintro e w2 ⟨rfl, rfl⟩
    go_wp2_with fail
    refine (HNW.out _).mono ?_
    rintro e w3 ⟨sb, F, rfl, hk3, hF, hS⟩
    have HO1 := Lib.hid (HOF.out w3 sb F (hkw.trans hk3) hS)
    replace c0 := hk3.cell c0
    replace c1 := hk3.cell c1
    have hbl : w.heap.size < w3.heap.size := by have := lt_of_cell c0; exact this
    have hkw3 := hkw.trans hk3
    clear hF hS
    go_wp2_with fail
    refine HO1.out.mono ?_
    rintro e w4 ⟨rfl, hk4⟩
    go_wp2_with fail
    go_ret2
    exact ⟨rfl, by (exact kp)⟩

end Go.Proofs.YtoeoehbpahodnaaGreat

namespace Go.Proofs.YtoeoehbpahodnaaGreat
set_option linter.unusedSimpArgs false
set_option linter.unusedVariables false
set_option maxHeartbeats 600000
open Go.RowKit

set_option maxRecDepth 100000 in
theorem term18_calls (a0 : Option Addr) (cap0 : Nat) (ps ws : List Int) (at' : Option Addr) (capt : Nat) (f : Int) (hf : 1 ≤ f ∧ f ≤ 5) (w : World) (hI : IntsAt w a0 ps) (hp : permB ps = true) (h6 : ps.length ≤ 6) (hT : BoolsIn w at' (setT ps.length ws)) :
    Calls Tryz.prog 74 #[.slice a0 ps.length cap0, .int .u8 f, .slice at' (2 ^ ps.length) capt] w fun e w' => e = .returned (.string (termK f ps.length (bldT (hasB ws) ps 0) 0)) ∧ Keeps w w' := by
  have h64 : 2 ^ ps.length ≤ 2 ^ 6 := Nat.pow_le_pow_right (by decide) h6
  have e64 : (2 : Nat) ^ 6 = 64 := rfl
  have ht := fun (W : World) (hW : Keeps w W) => tab09_calls a0 cap0 ps at' capt (setT ps.length ws) W (hI.keeps hW) hp (hT.keeps hW) (setT_len _ _)
  have hbs := fun (bs : List Bool) (hl : bs.length = 2 ^ ps.length) (h : ∀ X, X < 2 ^ ps.length → bs[dnN X ps]? = (setT ps.length ws)[X]?) => tab_bldT hp hl h
  have htm := fun (B : Nat) (W : World) (hB : BoolsAt W B (bldT (hasB ws) ps 0)) => termK_calls f hf ps.length (by omega) 0 (2 ^ ps.length) (bldT (hasB ws) ps 0) 0 W (ktabS hB) (bldT_len _ _ _) (Nat.le_refl _) (by omega) (by omega) (by omega)
  obtain ⟨T, hTT⟩ : ∃ T, T = bldT (hasB ws) ps 0 := ⟨_, rfl⟩
  rw [← hTT] at hbs htm ⊢
  obtain ⟨S, hS⟩ : ∃ S, S = setT ps.length ws := ⟨_, rfl⟩
  rw [← hS] at ht hbs
  obtain ⟨n, hn⟩ : ∃ n, n = ps.length := ⟨_, rfl⟩
  rw [← hn] at ht hbs htm ⊢
  obtain ⟨s, hs⟩ : ∃ s, s = termK f n T 0 := ⟨_, rfl⟩
  rw [← hs] at htm ⊢
  have HT := Lib.hid ht
  have HBS := Lib.hid hbs
  have HTM := Lib.hid htm
  clear ht hbs htm hI hp hT h6 h64 e64 hTT hS hn hs hf
  go_enter Tryz.func74, Tryz.ntmps74
  go_wp2_with fail
  refine (HT.out _ (by (exact kp))).mono ?_
  rintro e w1 ⟨B, bs, rfl, hB, hbl, hag, hk1⟩
  have hbe := HBS.out bs hbl hag
  subst hbe
  have HT1 := Lib.hid (HTM.out B _ hB)
  clear hB hbl hag
  go_wp2_with fail
  refine HT1.out.mono ?_
  rintro e w2 ⟨rfl, hk2⟩
  go_wp2_with fail
  go_ret
  exact ⟨rfl, by (exact kp)⟩

set_option maxRecDepth 100000 in
theorem nodes21_calls (t : ByteArray) (w : World) (ht : t.size ≤ 1048576) :
    Calls Tryz.prog 73 #[.string t] w fun e w' => ∃ a cap, e = .returned (.slice a (partsTo t t.size).length cap) ∧ Keeps w w' := by
  have hP := fun (W : World) => parts_calls t W ht
  have hN : ∀ W : World, Calls Tryz.prog 140 #[.string t] W fun e w' => ∃ a cap, e = .returned (.slice a (partsTo t t.size).length cap) ∧ Keeps W w' := fun W => by
    obtain ⟨c, hc⟩ : ∃ c, c = (partsTo t t.size).length := ⟨_, rfl⟩
    rw [← hc] at hP ⊢
    have HP := Lib.hid hP
    clear hP hc
    go_enter Tryz.func140, Tryz.ntmps140
    go_wp2_with (first | (go_at_call 208; refine (HP.out _).mono ?_; rintro e w2 ⟨pa, pcap, rfl, hk2⟩) | fail)
    go_ret
    exact ⟨pa, pcap, rfl, by (exact kp)⟩
  obtain ⟨c, hc⟩ : ∃ c, c = (partsTo t t.size).length := ⟨_, rfl⟩
  rw [← hc] at hN ⊢
  have HN := Lib.hid hN
  clear hP hN hc
  go_enter Tryz.func73, Tryz.ntmps73
  go_wp2_with (first | (go_at_call 140; refine (HN.out _).mono ?_; rintro e w2 ⟨pa, pcap, rfl, hk2⟩) | fail)
  go_ret
  exact ⟨pa, pcap, rfl, by (exact kp)⟩

set_option maxRecDepth 100000 in
set_option maxHeartbeats 2000000 in
theorem sizes21_calls (a0 : Option Addr) (cap0 : Nat) (ps ws : List Int) (at' : Option Addr) (capt : Nat) (w : World) (hI : IntsAt w a0 ps) (hp : permB ps = true) (h6 : ps.length ≤ 6) (hT : BoolsIn w at' (setT ps.length ws)) :
    Calls Tryz.prog 18 #[.slice a0 ps.length cap0, .slice at' (2 ^ ps.length) capt] w fun e w' => ∃ a' cap', e = .returned (.slice a' 5 cap') ∧ IntsAt w' a' (sizesL ps.length (bldT (hasB ws) ps 0)) ∧ Keeps w w' := by
  have htm := fun (f : Nat) (h1 : 1 ≤ f) (h5 : f ≤ 5) (W : World) (hW : Keeps w W) => term18_calls a0 cap0 ps ws at' capt (f : Int) (by omega) W (hI.keeps hW) hp h6 (hT.keeps hW)
  have hnd := fun (f : Nat) (h1 : 1 ≤ f) (h5 : f ≤ 5) (W : World) => nodes21_calls (termK (f : Int) ps.length (bldT (hasB ws) ps 0) 0) W (termK_size (by omega) h6 _ _)
  have hget := fun (f : Nat) (h1 : 1 ≤ f) (h5 : f ≤ 5) => sizesL_get (k := ps.length) (bs := bldT (hasB ws) ps 0) h1 h5
  have hslen := sizesL_len ps.length (bldT (hasB ws) ps 0)
  obtain ⟨zs, hzs⟩ : ∃ zs, zs = sizesL ps.length (bldT (hasB ws) ps 0) := ⟨_, rfl⟩
  rw [← hzs] at hget hslen ⊢
  obtain ⟨T, hTT⟩ : ∃ T, T = bldT (hasB ws) ps 0 := ⟨_, rfl⟩
  rw [← hTT] at htm hnd hget
  obtain ⟨p, hpp⟩ : ∃ p, p = 2 ^ ps.length := ⟨_, rfl⟩
  rw [← hpp] at htm ⊢
  obtain ⟨n, hn⟩ : ∃ n, n = ps.length := ⟨_, rfl⟩
  rw [← hn] at htm hnd hget ⊢
  obtain ⟨i0, hi, hz0, hz1, hz2⟩ := info_parts info_int
  have HTM := Lib.hid htm
  have HND := Lib.hid hnd
  have HGT := Lib.hid hget
  have HSL := Lib.hid hslen
  clear htm hnd hget hslen hI hp h6 hT hzs hTT hpp hn
  go_enter Tryz.func18, Tryz.ntmps18
  go_wp2_with fail
  go_loopg [5, 6] 5 (fun gk s5 s6 wr => ∃ (f : Nat) (v : Value), f + gk = 6 ∧ 1 ≤ f ∧ s6 = .int .u8 (f : Int) ∧ s5 = v ∧ wr.ownsRow w.heap.size 3 1 v (f - 1) ((zs.take (f - 1)).map (Value.int .i64)) ∧ Keeps w wr)
  case atStart => exact ⟨1, .slice none 0 0, rfl, by omega, rfl, rfl, World.ownsRow_nil _ _ _ _, Keeps.refl _⟩
  case round =>
    obtain ⟨f, v, hfg, hf1, rfl, rfl, hown, hk⟩ := hrel
    obtain ⟨la, lcap, rfl, -⟩ := owns_slice hown
    have HOW := Lib.hid hown
    clear hown
    by_cases hf5 : f ≤ 5
    · have HT1 := Lib.hid (HTM.out f hf1 hf5 wr hk)
      have hnd := HND.out f hf1 hf5
      have hzg := HGT.out f hf1 hf5
      obtain ⟨s, hs⟩ : ∃ s, s = termK (f : Int) n T 0 := ⟨_, rfl⟩
      have hz : termN (f : Int) n T = (partsTo s s.size).length := by rw [hs]; rfl
      rw [hz] at hzg
      rw [← hs] at hnd HT1
      obtain ⟨z, hzz⟩ : ∃ z, z = (partsTo s s.size).length := ⟨_, rfl⟩
      rw [← hzz] at hnd hzg
      have HN1 := Lib.hid hnd
      have HZG := Lib.hid hzg
      have q1 : f - 1 + 1 ≤ maxLen := by unfold maxLen; omega
      have q2 : (f - 1 + 1) * 8 ≤ 140737488355328 := by omega
      clear hnd hzg hs hz hzz
      have srk := hk.size
      go_upto_region 5 with fail
      go_wp2_with (first
        | (go_at_call 74; refine HT1.out.mono ?_; rintro e w2 ⟨rfl, hk2⟩)
        | (go_at_call 73; refine (HN1.out _).mono ?_; rintro e w3 ⟨pa, pcap, rfl, hk3⟩; have s23 := hk2.size; have s33 := hk3.size)
        | (at_builtin; refine wpList_append_own _ rfl _ _ 22 rfl w.heap.size 3 i0 (.int .i64 0) 1 8 Tryz.underlying22 hi hz0 hz1 hz2 rfl (by decide) (.slice la (f - 1) lcap) (f - 1) ((zs.take (f - 1)).map (Value.int .i64)) rfl ((Keeps.owns (hk2.trans hk3) HOW.out).alloc _) ⟨w3.heap.size, 0, none⟩ 1 1 [.int .i64 (z : Int)] rfl rfl (cell_new _ _ _ _ rfl) (by simp [Value.oneCell']) (by exact q1) (by exact q2) (by simp; omega) ?_; intro v3 w6 hown3 hg3 _)
        | fail)
      obtain ⟨lb, lcap2, rfl, -⟩ := owns_slice hown3
      have hkr3 := hk2.trans hk3
      have hO3 := Keeps.owns hkr3 HOW.out
      have hk03 := hk.trans hkr3
      have hu3 : Upd (fun k => (Value.slice la (f - 1) lcap).ownBlock = some k) w3 w6 := Upd.grown (by repeat (first | exact Upd.refl _ _ | refine Upd.alloc ?_ _ | refine Upd.drew ?_)) hg3 (fun k hk => .inl hk)
      have hk6 : Keeps w w6 := hk03.new hu3 (fun k hk2 => by
        rcases hO3.2 with ⟨e0, _⟩ | ⟨g', cap', cur, e0, hbg, _⟩
        · rw [e0] at hk2; simp [Value.ownBlock] at hk2
        · rw [e0] at hk2; simp [Value.ownBlock] at hk2; omega)
      have HO6 := Lib.hid hown3
      clear hown3 hg3 hu3 hO3
      go_wp2_with fail
      go_roundg (gk - 1)
      case rel => exact ⟨f + 1, _, by omega, by omega, by simp, rfl, by
        have := HO6.out
        rw [show f + 1 - 1 = f - 1 + 1 by omega, take_snoc HZG.out, List.map_append]
        exact this, hk6⟩
      case measure => omega
    · have hf6 : f = 6 := by omega
      subst hf6
      have hO := HOW.out
      rw [List.take_of_length_le (by rw [HSL.out]; omega)] at hO
      have HO := Lib.hid hO
      clear hO
      go_wp2_with fail
      go_ret
      refine ⟨la, lcap, rfl, fun i x hx => ?_, hk⟩
      have hi5 : i < 5 := by have := (List.getElem?_eq_some_iff.1 hx).1; rw [HSL.out] at this; exact this
      obtain ⟨a0, cp0, e0, hs0⟩ := owns_slice HO.out
      cases e0
      obtain ⟨g, rfl⟩ := hs0 (by omega)
      exact (rowI_owns HO.out).1.ints i x hx

end Go.Proofs.YtoeoehbpahodnaaGreat
