/-
  ramageref17.Cube: a cube's table.
-/
import Derived.Test.YtiacdpoldgfpbaaGreatPCubePxF
import Derived.Test.YtiacdpoldgfpbaaGreatPTableWxI
namespace Go.Proofs.YtiacdpoldgfpbaaGreat
set_option linter.unusedSimpArgs false
set_option linter.unusedVariables false
set_option maxHeartbeats 600000
open Go.RowKit

def cubeV (o z : Int) : Nat → Nat → Int → Bool
  | _, 0, _ => true
  | y, k + 1, l => (if y / 2 ^ k % 2 = 1 then !bitB z l else !bitB o l) && cubeV o z (y % 2 ^ k) k (l + 1)

theorem cubeT_at {o z : Int} : ∀ (k : Nat) (l : Int) (y : Nat), y < 2 ^ k → (cubeT o z k l)[y]? = some (cubeV o z y k l) := by
  intro k
  induction k with
  | zero =>
    intro l y hy
    have : y = 0 := by simpa using hy
    subst this
    rfl
  | succ k ih =>
    intro l y hy
    have hp : 0 < 2 ^ k := Nat.pow_pos (by decide)
    have e2 : 2 ^ (k + 1) = 2 ^ k + 2 ^ k := by rw [Nat.pow_succ]; omega
    have hl : ∀ b : Bool, (if b then List.replicate (2 ^ k) false else cubeT o z k (l + 1)).length = 2 ^ k := fun b => by
      cases b
      · exact cubeT_len o z k (l + 1)
      · simp
    have hv : ∀ (b : Bool) (i : Nat), i < 2 ^ k → (if b then List.replicate (2 ^ k) false else cubeT o z k (l + 1))[i]? = some (!b && cubeV o z i k (l + 1)) := fun b i hi => by
      cases b
      · exact ih (l + 1) i hi
      · simp [hi]
    show ((if bitB o l then List.replicate (2 ^ k) false else cubeT o z k (l + 1)) ++ (if bitB z l then List.replicate (2 ^ k) false else cubeT o z k (l + 1)))[y]? = some ((if y / 2 ^ k % 2 = 1 then !bitB z l else !bitB o l) && cubeV o z (y % 2 ^ k) k (l + 1))
    by_cases h : y < 2 ^ k
    · rw [List.getElem?_append_left (by rw [hl]; exact h), hv _ _ h, Nat.div_eq_of_lt h, Nat.mod_eq_of_lt h, if_neg (by decide)]
    · have h1 : y / 2 ^ k = 1 := by
        rw [Nat.div_eq_iff hp]
        omega
      have h2 : y % 2 ^ k = y - 2 ^ k := by
        have := Nat.div_add_mod y (2 ^ k)
        rw [h1] at this
        omega
      rw [List.getElem?_append_right (by rw [hl]; omega), hl, hv _ _ (by omega), h1, h2, if_pos (by decide)]

set_option maxRecDepth 100000 in
set_option maxHeartbeats 1000000 in
theorem rcube_calls (m k : Nat) (o z : Int) (w : World) (hmk : m + k ≤ 16) (o0 : 0 ≤ o) (o1 : o ≤ 65535) (z0 : 0 ≤ z) (z1 : z ≤ 65535) :
    Calls Tryz.prog 14 #[.int .i64 ((m : Int) + (k : Int)), .int .i64 (m : Int), .int .i64 o, .int .i64 z] w fun e w' => e = .returned (.slice (some ⟨w.heap.size, 0, none⟩) (2 ^ k) (2 ^ k)) ∧ BoolsAt w' w.heap.size (cubeT o z k (m : Int)) ∧ Keeps w w' := by
  have hlen := cubeT_len o z k (m : Int)
  have hat := fun (y : Nat) (hy : y < 2 ^ k) => cubeT_at (o := o) (z := z) k (m : Int) y hy
  obtain ⟨ts, hts⟩ : ∃ ts, ts = cubeT o z k (m : Int) := ⟨_, rfl⟩
  rw [← hts] at hlen hat ⊢
  have h16 : 2 ^ k ≤ 2 ^ 16 := Nat.pow_le_pow_right (by decide) (by omega)
  have e16 : (2 : Nat) ^ 16 = 65536 := rfl
  rw [e16] at h16
  have HS := Lib.hid (fun (W : World) => size_calls k (by omega) W)
  obtain ⟨p, hp⟩ : ∃ p, p = 2 ^ k := ⟨_, rfl⟩
  rw [← hp] at HS hlen hat h16 ⊢
  have HP := Lib.hid hp
  have HLEN := Lib.hid hlen
  have HAT := Lib.hid hat
  obtain ⟨n, hn⟩ : ∃ n : Int, n = (m : Int) + (k : Int) := ⟨_, rfl⟩
  rw [← hn]
  have hnk : n - (m : Int) = (k : Int) := by omega
  have hn16 : n ≤ 16 := by omega
  have HN := Lib.hid hn
  obtain ⟨j0, hj, jz0, jz1, jz2⟩ := info_parts (show (Tryz.prog.info? 4).map (fun i => (i.zero, i.size, i.bytes)) = some (some (.bool false), 1, 1) by kernel_rfl)
  clear hlen hat hts hp hn e16
  go_enter Tryz.func14, Tryz.ntmps14
  go_wp2_with (first
    | (go_at_call 44; refine (HS.out _).mono ?_; rintro e2 w2 ⟨rfl, rfl⟩)
    | (at_make; refine wpList_make_full _ rfl _ _ 37 rfl w.heap.size 4 j0 (.bool false) 1 Tryz.underlying37 hj jz0 jz1 .i64 .i64 (p : Int) (p : Int) p rfl rfl rfl rfl (by rw [jz2]; omega) (by unfold maxLen; omega) (Nat.le_refl _) ?_; intro w1 hown1 hg1)
    | fail)
  have HB1 := Lib.hid (bools_made hown1)
  have HK1 := Lib.hid (show Keeps w w1 from ⟨hg1.os, hg1.tape, hg1.output, hg1.size, fun i hi => hg1.block i hi (by simp)⟩)
  clear hown1 hg1
  go_loopg [10] p (fun gk s10 wr => ∃ (y : Nat) (bs : List Bool), y + gk = p ∧ s10 = .int .i64 (y : Int) ∧ bs.length = p ∧ BoolsAt wr w.heap.size bs ∧ (∀ i, i < y → bs[i]? = ts[i]?) ∧ Keeps w wr)
  case atStart => exact ⟨0, _, by omega, rfl, by simp, HB1.out, fun i hi => by omega, HK1.out⟩
  case round =>
    obtain ⟨y, bs, hy, rfl, hbl, hB, hag, hk0⟩ := hrel
    have HB := Lib.hid hB
    have HBL := Lib.hid hbl
    have HAG := Lib.hid hag
    have HK0 := Lib.hid hk0
    clear hB hbl hag hk0
    by_cases hlt : y < p
    · obtain ⟨g0, hg0⟩ : ∃ g, g = gk := ⟨_, rfl⟩
      have hy16 : (y : Int) ≤ 65535 := by omega
      have HG0 := Lib.hid hg0
      clear hg0
      obtain ⟨wo, rfl⟩ : ∃ W, W = wr := ⟨wr, rfl⟩
      have cD := HB.out.cell (i := y) (b := bs[y]'(by rw [HBL.out]; exact hlt)) (List.getElem?_eq_getElem _)
      have fD := HB.out.frozen y
      go_wp2_with fail
      go_loopg [11, 12] k (fun gk s11 s12 wi => ∃ (j : Nat) (b : Bool), j + gk = k ∧ s11 = .int .i64 ((m : Int) + (j : Int)) ∧ BoolsAt wi w.heap.size (bs.set y b) ∧ Hid ((b && cubeV o z (y % 2 ^ (k - j)) (k - j) ((m : Int) + (j : Int))) = cubeV o z y k (m : Int)) ∧ Keeps w wi)
      case atStart =>
        refine ⟨0, true, by omega, by simp, HB.out.set y true, Lib.hid ?_, HK0.out.new ((Upd.refl (fun i => i = w.heap.size) wo).setCell (Or.inl rfl) _) (fun i hi => by omega)⟩
        rw [Nat.sub_zero, Nat.mod_eq_of_lt (by rw [← HP.out]; exact hlt), Bool.true_and, show (m : Int) + ((0 : Nat) : Int) = (m : Int) by omega]
      case round =>
        obtain ⟨j, b, hj2, rfl, hBi, HCV, hki⟩ := hrel
        have HBI := Lib.hid hBi
        have HKI := Lib.hid hki
        clear hBi hki cD fD
        by_cases hjk : j < k
        · obtain ⟨q, hq⟩ : ∃ q, k = j + 1 + q := ⟨k - (j + 1), by omega⟩
          have hq2 : n - 1 - ((m : Int) + (j : Int)) = (q : Int) := by have := HN.out; omega
          have hlt2 : (m : Int) + (j : Int) < n := by have := HN.out; omega
          have hstep : (b && ((if y / 2 ^ q % 2 = 1 then !bitB z ((m : Int) + (j : Int)) else !bitB o ((m : Int) + (j : Int))) && cubeV o z (y % 2 ^ (k - (j + 1))) (k - (j + 1)) ((m : Int) + ((j + 1 : Nat) : Int)))) = cubeV o z y k (m : Int) := by
            have hr := HCV.out
            have ek : k - j = q + 1 := by omega
            have ek2 : k - (j + 1) = q := by omega
            rw [ek] at hr
            rw [ek2, ← hr]
            show _ = (b && ((if y % 2 ^ (q + 1) / 2 ^ q % 2 = 1 then !bitB z ((m : Int) + (j : Int)) else !bitB o ((m : Int) + (j : Int))) && cubeV o z (y % 2 ^ (q + 1) % 2 ^ q) q ((m : Int) + (j : Int) + 1)))
            rw [(mod_bit y q).1, (mod_bit y q).2, show (m : Int) + ((j + 1 : Nat) : Int) = (m : Int) + (j : Int) + 1 by push_cast; omega]
          have HV := Lib.hid (fun (W : World) => value_calls (y : Int) (q : Int) W (by omega) hy16 (by omega) (by omega))
          have HVO := Lib.hid (fun (W : World) => value_calls o ((m : Int) + (j : Int)) W o0 o1 (by omega) (by omega))
          have HVZ := Lib.hid (fun (W : World) => value_calls z ((m : Int) + (j : Int)) W z0 z1 (by omega) (by omega))
          rw [bitB_nat] at HV
          have HQ := Lib.hid hq
          have cI := HBI.out.cell (i := y) (b := b) (by rw [List.getElem?_set_self (by rw [HBL.out]; exact hlt)])
          have fI := HBI.out.frozen y
          obtain ⟨bo, hbo⟩ : ∃ bo, bo = bitB o ((m : Int) + (j : Int)) := ⟨_, rfl⟩
          obtain ⟨bz, hbz⟩ : ∃ bz, bz = bitB z ((m : Int) + (j : Int)) := ⟨_, rfl⟩
          rw [← hbo] at HVO hstep
          rw [← hbz] at HVZ hstep
          by_cases hy1 : y / 2 ^ q % 2 = 1
          · rw [decide_eq_true hy1] at HV
            rw [if_pos hy1] at hstep
            have HST := Lib.hid hstep
            clear hstep hq hbo hbz hy1 HCV
            cases bz
            · go_wp2_with (first
                | (go_at_call 11; with_reducible refine (HV.out _).mono ?_; rintro e2 w2 ⟨rfl, rfl⟩)
                | (go_at_call 11; with_reducible refine (HVZ.out _).mono ?_; rintro e2 w2 ⟨rfl, rfl⟩)
                | fail)
              go_roundg (gk - 1)
              case rel => exact ⟨j + 1, b, by omega, by push_cast; congr 1, HBI.out, Lib.hid (by have := HST.out; simpa using this), HKI.out⟩
              case measure => omega
            · go_wp2_with (first
                | (go_at_call 11; with_reducible refine (HV.out _).mono ?_; rintro e2 w2 ⟨rfl, rfl⟩)
                | (go_at_call 11; with_reducible refine (HVZ.out _).mono ?_; rintro e2 w2 ⟨rfl, rfl⟩)
                | fail)
              go_roundg (gk - 1)
              case rel => exact ⟨j + 1, false, by omega, by push_cast; congr 1, by have := HBI.out.set y false; rwa [List.set_set] at this, Lib.hid (by have := HST.out; simpa using this), HKI.out.new ((Upd.refl (fun i => i = w.heap.size) _).setCell (Or.inl rfl) _) (fun i hi => by omega)⟩
              case measure => omega
          · rw [decide_eq_false hy1] at HV
            rw [if_neg hy1] at hstep
            have HST := Lib.hid hstep
            clear hstep hq hbo hbz hy1 HCV
            cases bo
            · go_wp2_with (first
                | (go_at_call 11; with_reducible refine (HV.out _).mono ?_; rintro e2 w2 ⟨rfl, rfl⟩)
                | (go_at_call 11; with_reducible refine (HVO.out _).mono ?_; rintro e2 w2 ⟨rfl, rfl⟩)
                | fail)
              go_roundg (gk - 1)
              case rel => exact ⟨j + 1, b, by omega, by push_cast; congr 1, HBI.out, Lib.hid (by have := HST.out; simpa using this), HKI.out⟩
              case measure => omega
            · go_wp2_with (first
                | (go_at_call 11; with_reducible refine (HV.out _).mono ?_; rintro e2 w2 ⟨rfl, rfl⟩)
                | (go_at_call 11; with_reducible refine (HVO.out _).mono ?_; rintro e2 w2 ⟨rfl, rfl⟩)
                | fail)
              go_roundg (gk - 1)
              case rel => exact ⟨j + 1, false, by omega, by push_cast; congr 1, by have := HBI.out.set y false; rwa [List.set_set] at this, Lib.hid (by have := HST.out; simpa using this), HKI.out.new ((Upd.refl (fun i => i = w.heap.size) _).setCell (Or.inl rfl) _) (fun i hi => by omega)⟩
              case measure => omega
        · obtain rfl : j = k := by omega
          have hge : ¬ ((m : Int) + (j : Int) < n) := by have := HN.out; omega
          have hb : b = cubeV o z y j (m : Int) := by
            have := HCV.out
            rw [Nat.sub_self] at this
            simpa [cubeV] using this
          have HBV := Lib.hid hb
          clear hb HCV
          go_wp2_with fail
          go_roundg (g0 - 1)
          case rel => exact ⟨y + 1, bs.set y b, by have := HG0.out; omega, by simp, by rw [List.length_set]; exact HBL.out, HBI.out, fun i hi => by
            by_cases e : i = y
            · subst e
              rw [List.getElem?_set_self (by rw [HBL.out]; exact hlt), HAT.out i hlt, HBV.out]
            · rw [List.getElem?_set_ne (fun hh => e hh.symm)]
              exact HAG.out i (by omega), HKI.out⟩
          case measure => have := HG0.out; omega
    · obtain rfl : y = p := by omega
      have hbs : bs = ts := by
        apply List.ext_getElem?
        intro i
        by_cases hi : i < y
        · exact HAG.out i hi
        · rw [List.getElem?_eq_none (by rw [HBL.out]; omega), List.getElem?_eq_none (by rw [HLEN.out]; omega)]
      have HBS := Lib.hid hbs
      clear hbs
      go_wp2_with fail
      go_ret
      exact ⟨rfl, by rw [← HBS.out]; exact HB.out, HK0.out⟩

end Go.Proofs.YtiacdpoldgfpbaaGreat
