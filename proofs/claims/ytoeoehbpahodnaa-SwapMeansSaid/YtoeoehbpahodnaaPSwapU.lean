/-
  ramageref17.Table over the state: the table of what an edge means.
-/
import Derived.Test.YtoeoehbpahodnaaPHoldsY
import Derived.Test.YtoeoehbpahodnaaPPermR
import Derived.Test.YtoeoehbpahodnaaPSwapP
namespace Go.Proofs.Ytoeoehbpahodnaa
set_option linter.unusedSimpArgs false
set_option linter.unusedVariables false
set_option maxHeartbeats 600000
open Go.RowKit

def rv : Nat → Nat → Nat → Int
  | _, 0, _ => 0
  | y, k + 1, m => (if y / 2 ^ k % 2 = 1 then 2 ^ m else 0) + rv (y % 2 ^ k) k (m + 1)

theorem tabX_at {g : Int → Bool} : ∀ (k m : Nat) (x : Int) (y : Nat), y < 2 ^ k → (tabX g k m x)[y]? = some (g (x + rv y k m)) := by
  intro k
  induction k with
  | zero =>
    intro m x y hy
    have : y = 0 := by simpa using hy
    subst this
    show some (g x) = some (g (x + 0))
    rw [Int.add_zero]
  | succ k ih =>
    intro m x y hy
    have hp : 0 < 2 ^ k := Nat.pow_pos (by decide)
    have e2 : 2 ^ (k + 1) = 2 ^ k + 2 ^ k := by rw [Nat.pow_succ]; omega
    show (tabX g k (m + 1) x ++ tabX g k (m + 1) (x + 2 ^ m))[y]? = some (g (x + ((if y / 2 ^ k % 2 = 1 then 2 ^ m else 0) + rv (y % 2 ^ k) k (m + 1))))
    have hl := tabX_len g k (m + 1) x
    by_cases h : y < 2 ^ k
    · rw [List.getElem?_append_left (by rw [hl]; exact h), ih _ _ _ h, Nat.div_eq_of_lt h, Nat.mod_eq_of_lt h, if_neg (by decide), Int.zero_add]
    · have h1 : y / 2 ^ k = 1 := by
        rw [Nat.div_eq_iff hp]
        omega
      have h2 : y % 2 ^ k = y - 2 ^ k := by
        have := Nat.div_add_mod y (2 ^ k)
        rw [h1] at this
        omega
      rw [List.getElem?_append_right (by rw [hl]; omega), hl, ih _ _ _ (by omega), h1, h2, if_pos (by decide), Int.add_assoc]

theorem pow_cast (n : Nat) : ((2 ^ n : Nat) : Int) = 2 ^ n := by push_cast; rfl

theorem rv_next (y k m : Nat) : rv y (k + 1) m = bitI (decide (y / 2 ^ k % 2 = 1)) * ((2 ^ m : Nat) : Int) + rv (y % 2 ^ k) k (m + 1) := by
  show (if y / 2 ^ k % 2 = 1 then (2 : Int) ^ m else 0) + _ = _
  congr 1
  by_cases h : y / 2 ^ k % 2 = 1
  · rw [if_pos h, decide_eq_true h]
    show (2 : Int) ^ m = 1 * _
    rw [Int.one_mul]
    push_cast
    rfl
  · rw [if_neg h, decide_eq_false h]
    show (0 : Int) = 0 * _
    rw [Int.zero_mul]

theorem mod_bit (y k : Nat) : y % 2 ^ (k + 1) / 2 ^ k % 2 = y / 2 ^ k % 2 ∧ y % 2 ^ (k + 1) % 2 ^ k = y % 2 ^ k := by
  have hp : 0 < 2 ^ k := Nat.pow_pos (by decide)
  constructor
  · rw [Nat.mod_pow_succ, Nat.add_mul_div_left _ _ hp, Nat.div_eq_of_lt (Nat.mod_lt _ hp), Nat.zero_add, Nat.mod_mod]
  · rw [Nat.pow_succ, Nat.mod_mul_right_mod]

theorem bitB_nat (y k : Nat) : bitB (y : Int) (k : Int) = decide (y / 2 ^ k % 2 = 1) := by
  unfold bitB
  rw [Int.toNat_natCast]
  congr 1
  have : (y : Int) / 2 ^ k % 2 = ((y / 2 ^ k % 2 : Nat) : Int) := by push_cast; rfl
  rw [this]
  exact propext ⟨fun h => by exact_mod_cast h, fun h => by exact_mod_cast h⟩

theorem bitB_small {x : Int} {m : Nat} (h0 : 0 ≤ x) (h : x < ((2 ^ m : Nat) : Int)) : bitB x (m : Int) = false := by
  unfold bitB
  rw [Int.toNat_natCast, ← pow_cast, Int.ediv_eq_zero_of_lt h0 h]
  rfl

theorem put_calls (x v b : Int) (w : World) (hx0 : 0 ≤ x) (hx1 : x ≤ 65535) (hv0 : 0 ≤ v) (hv1 : v ≤ 16) (hb0 : 0 ≤ b) (hb1 : b ≤ 1) (hz : bitB x v = false) :
    Calls Try.prog 93 #[.int .i64 x, .int .i64 v, .int .i64 b] w fun e w' => e = .returned (.int .i64 (x + b * ((2 ^ v.toNat : Nat) : Int))) ∧ Keeps w w' := by
  obtain ⟨n, rfl⟩ : ∃ n : Nat, v = (n : Int) := ⟨v.toNat, by omega⟩
  have HV := Lib.hid (fun (W : World) => value_calls x n W hx0 hx1 hv0 hv1)
  have HS := Lib.hid (fun (W : World) => size_calls n (by omega) W)
  rw [hz] at HV
  have hp1 : 2 ^ n ≤ 2 ^ 16 := Nat.pow_le_pow_right (by decide) (by omega)
  have e16 : (2 : Nat) ^ 16 = 65536 := rfl
  rw [Int.toNat_natCast]
  obtain ⟨p, hp⟩ : ∃ p, p = 2 ^ n := ⟨_, rfl⟩
  rw [← hp] at HS hp1 ⊢
  rw [e16] at hp1
  clear hp e16
  change Hid (∀ W, Calls Try.prog 94 #[.int .i64 x, .int .i64 n] W fun e w' => e = .returned (.int .i64 0) ∧ W = w') at HV
  have hbb : b = 0 ∨ b = 1 := by omega
  rcases hbb with rfl | rfl
  · go_enter Try.func93, Try.ntmps93
    go_wp2_with (first | (go_at_call 94; refine (HV.out _).mono ?_; rintro e w' ⟨rfl, rfl⟩) | (go_at_call 47; refine (HS.out _).mono ?_; rintro e w' ⟨rfl, rfl⟩) | fail)
    go_ret
    exact ⟨by simp, Keeps.refl _⟩
  · go_enter Try.func93, Try.ntmps93
    go_wp2_with (first | (go_at_call 94; refine (HV.out _).mono ?_; rintro e w' ⟨rfl, rfl⟩) | (go_at_call 47; refine (HS.out _).mono ?_; rintro e w' ⟨rfl, rfl⟩) | fail)
    go_ret
    exact ⟨by simp, Keeps.refl _⟩

set_option maxRecDepth 100000 in
set_option maxHeartbeats 1000000 in
theorem table_calls {F : Nat → Prop} {w : World} {mb : Nat} {M : St} {L : List (Int × Rec)} (h : RefRep F w mb M L) (f : Int) (hf : 1 ≤ f ∧ f ≤ 5) (e : Edge) (he : e.ok) (k m : Nat) (hk : (m : Int) + (k : Int) = M.n) (hl : M.leads f e (m : Int) = true) :
    Calls Try.prog 75 #[.pointer (some ⟨mb, 0, none⟩), .int .u8 f, .agg #[.int .u8 e.tag, .int .u32 e.to], .int .i64 (m : Int)] w fun r w' => ∃ B, r = .returned (.slice (some ⟨B, 0, none⟩) (2 ^ k) (2 ^ k)) ∧ w.heap.size ≤ B ∧ BoolsAt w' B (tabE M f e (m : Int)) ∧ Keeps w w' := by
  have hn16 := h.wf.n16
  have hlen : (tabE M f e (m : Int)).length = 2 ^ k := by rw [tabE_len]; congr 1; omega
  have hat : ∀ y, y < 2 ^ k → (tabE M f e (m : Int))[y]? = some (tv M f (0 + rv y k m) (m : Int) e) := fun y hy => by
    unfold tabE
    rw [show (M.n - (m : Int)).toNat = k by omega, Int.toNat_natCast]
    exact tabX_at k m 0 y hy
  have hH := fun (x : Int) (hx0 : 0 ≤ x) (hx1 : x ≤ 65535) (W : World) (hW : Keeps w W) => rholds_calls h f x hf hx0 hx1 (M.n - m).toNat (m : Int) e W hW he (by omega) (by omega) (by omega) (fun r hr2 => by obtain ⟨a, b, _⟩ := leads_some hl hr2; exact ⟨a, b⟩)
  obtain ⟨ts, hts⟩ : ∃ ts, ts = tabE M f e (m : Int) := ⟨_, rfl⟩
  rw [← hts] at hlen hat ⊢
  have c3 : w.cell? ⟨mb, 3, none⟩ = some (.int .i64 M.n) := h.vars
  have hmb := h.pos
  have HH := Lib.hid hH
  have HLEN := Lib.hid hlen
  have HAT := Lib.hid hat
  have HK := Lib.hid hk
  have hk16 : k ≤ 16 := by omega
  have hm16 : m ≤ 16 := by omega
  have HS := Lib.hid (fun (W : World) => size_calls k (by omega) W)
  have h16 : 2 ^ k ≤ 2 ^ 16 := Nat.pow_le_pow_right (by decide) hk16
  have e16 : (2 : Nat) ^ 16 = 65536 := rfl
  rw [e16] at h16
  obtain ⟨p, hp⟩ : ∃ p, p = 2 ^ k := ⟨_, rfl⟩
  rw [← hp] at HS HLEN HAT h16 ⊢
  have HP := Lib.hid hp
  obtain ⟨n, hn⟩ : ∃ n, n = M.n := ⟨_, rfl⟩
  rw [← hn] at c3 hn16
  have hnk : (n - (m : Int)) = (k : Int) := by omega
  have hmk : m + k ≤ 16 := by omega
  have h1 : n ≤ 16 := by omega
  have h2 : 0 ≤ n := by omega
  have HN := Lib.hid hn
  obtain ⟨j0, hj, jz0, jz1, jz2⟩ := info_parts (show (Try.prog.info? 4).map (fun i => (i.zero, i.size, i.bytes)) = some (some (.bool false), 1, 1) by kernel_rfl)
  clear h hlen hat hk hH hl hts hp hn e16
  go_enter Try.func75, Try.ntmps75
  go_wp2_with (first
    | (go_at_call 47; refine (HS.out _).mono ?_; rintro e2 w2 ⟨rfl, rfl⟩)
    | (at_make; refine wpList_make_full _ rfl _ _ 58 rfl (w.heap.size + 1) 4 j0 (.bool false) 1 Try.underlying58 hj jz0 jz1 .i64 .i64 (p : Int) (p : Int) p rfl rfl rfl rfl (by rw [jz2]; omega) (by unfold maxLen; omega) (by simp) ?_; intro w1 hown1 hg1)
    | fail)
  simp only [World.size_alloc] at hown1
  have HB1 := Lib.hid (bools_made hown1)
  have hkw : Keeps (w.alloc (.cells #[.int .u8 e.tag, .int .u32 e.to] 63)) w1 := ⟨hg1.os, hg1.tape, hg1.output, hg1.size, fun i hi => hg1.block i hi (by simp)⟩
  have HK1 := Lib.hid hkw
  have x0 : w1.cell? ⟨w.heap.size, 0, none⟩ = some (.int .u8 e.tag) := hkw.cell (by simp [go_sem])
  have x1 : w1.cell? ⟨w.heap.size, 1, none⟩ = some (.int .u32 e.to) := hkw.cell (by simp [go_sem])
  have hkk : Keeps w w1 := ((Keeps.refl _).alloc _).trans hkw
  have HKK := Lib.hid hkk
  clear hown1 hg1 hkw hkk
  go_loopg [11] p (fun gk s11 wr => ∃ (y : Nat) (bs : List Bool), y + gk = p ∧ s11 = .int .i64 (y : Int) ∧ bs.length = p ∧ BoolsAt wr (w.heap.size + 1) bs ∧ (∀ i, i < y → bs[i]? = ts[i]?) ∧ Upd (fun j => j = w.heap.size + 1) w1 wr)
  case atStart => exact ⟨0, _, by omega, rfl, by simp, HB1.out, fun i hi => by omega, Upd.refl _ _⟩
  case round =>
    obtain ⟨y, bs, hy, rfl, hbl, hB, hag, hk0⟩ := hrel
    have HB := Lib.hid hB
    have HBL := Lib.hid hbl
    have HAG := Lib.hid hag
    have HK0 := Lib.hid hk0
    clear hB hbl hag hk0
    by_cases hlt : y < p
    · obtain ⟨g0, hg0⟩ : ∃ g, g = gk := ⟨_, rfl⟩
      have hy16 : (y : Int) ≤ 65535 := by omega
      have HG0 := Lib.hid hg0
      clear hg0
      obtain ⟨wo, rfl⟩ : ∃ W, W = wr := ⟨wr, rfl⟩
      go_wp2_with fail
      go_loopg [12, 13] k (fun gk s12 s13 wi => ∃ (j : Nat) (x : Int), j + gk = k ∧ s13 = .int .i64 (j : Int) ∧ s12 = .int .i64 x ∧ 0 ≤ x ∧ x < ((2 ^ (m + j) : Nat) : Int) ∧ Hid (x + rv (y % 2 ^ (k - j)) (k - j) (m + j) = rv y k m) ∧ Keeps wo wi)
      case atStart =>
        refine ⟨0, 0, by omega, rfl, rfl, by omega, ?_, Lib.hid ?_, Keeps.refl _⟩
        · have : 0 < 2 ^ (m + 0) := Nat.pow_pos (by decide)
          omega
        · rw [Nat.sub_zero, Nat.add_zero, Nat.mod_eq_of_lt (by rw [← HP.out]; exact hlt)]
          omega
      case round =>
        obtain ⟨j, x, hj2, rfl, rfl, hx0, hx1, HRV, hki⟩ := hrel
        have HKI := Lib.hid hki
        clear hki
        by_cases hjk : j < k
        · obtain ⟨q, hq⟩ : ∃ q, k = j + 1 + q := ⟨k - (j + 1), by omega⟩
          have hq2 : (k : Int) - 1 - (j : Int) = (q : Int) := by omega
          have hp2 : 2 ^ (m + j) ≤ 2 ^ 15 := Nat.pow_le_pow_right (by decide) (by omega)
          have e15 : (2 : Nat) ^ 15 = 32768 := rfl
          rw [e15] at hp2
          have hz := bitB_small hx0 hx1
          obtain ⟨bb, hbb⟩ : ∃ bb, bb = bitB (y : Int) (q : Int) := ⟨_, rfl⟩
          have HV := Lib.hid (fun (W : World) => value_calls (y : Int) (q : Int) W (by omega) hy16 (by omega) (by omega))
          rw [← hbb] at HV
          have hb01 : 0 ≤ bitI bb ∧ bitI bb ≤ 1 := by cases bb <;> decide
          have HPU := Lib.hid (fun (W : World) => put_calls x ((m : Int) + (j : Int)) (bitI bb) W hx0 (by omega) (by omega) (by omega) hb01.1 hb01.2 (by rw [show (m : Int) + (j : Int) = ((m + j : Nat) : Int) by push_cast; rfl]; exact hz))
          have hstep : x + bitI bb * ((2 ^ ((m : Int) + (j : Int)).toNat : Nat) : Int) < ((2 ^ (m + (j + 1)) : Nat) : Int) ∧ 0 ≤ x + bitI bb * ((2 ^ ((m : Int) + (j : Int)).toNat : Nat) : Int) ∧ x + bitI bb * ((2 ^ ((m : Int) + (j : Int)).toNat : Nat) : Int) + rv (y % 2 ^ (k - (j + 1))) (k - (j + 1)) (m + (j + 1)) = rv y k m := by
            rw [show ((m : Int) + (j : Int)).toNat = m + j by omega]
            have e1 : 2 ^ (m + (j + 1)) = 2 ^ (m + j) * 2 := by rw [← Nat.add_assoc, Nat.pow_succ]
            have hr := HRV.out
            have ek : k - j = q + 1 := by omega
            have ek2 : k - (j + 1) = q := by omega
            rw [ek, rv_next, (mod_bit y q).1, (mod_bit y q).2, ← bitB_nat, ← hbb] at hr
            rw [ek2, ← Nat.add_assoc m j 1]
            refine ⟨?_, ?_, by rw [← hr, Int.add_assoc]⟩
            · rw [← Nat.add_assoc] at e1
              rw [e1]
              push_cast
              push_cast at hx1
              cases bb
              · show x + 0 * _ < _
                omega
              · show x + 1 * _ < _
                omega
            · cases bb
              · show 0 ≤ x + 0 * _
                omega
              · show 0 ≤ x + 1 * _
                omega
          obtain ⟨x', hx'⟩ : ∃ x', x' = x + bitI bb * ((2 ^ ((m : Int) + (j : Int)).toNat : Nat) : Int) := ⟨_, rfl⟩
          rw [← hx'] at hstep HPU
          have HST := Lib.hid hstep
          obtain ⟨b0, hb0⟩ : ∃ b0, b0 = bitI bb := ⟨_, rfl⟩
          rw [← hb0] at HV HPU
          have HQ := Lib.hid hq
          clear hstep hx' hbb hz hp2 e15 hb01 hb0 hx0 hx1 HRV hq
          go_wp2_with (first
            | (go_at_call 94; with_reducible refine (HV.out _).mono ?_; rintro e2 w2 ⟨rfl, rfl⟩)
            | (go_at_call 93; refine (HPU.out _).mono ?_; rintro e2 w2 ⟨rfl, hk2⟩)
            | fail)
          go_roundg (gk - 1)
          case rel => exact ⟨j + 1, x', by omega, by simp, rfl, HST.out.2.1, HST.out.1, Lib.hid HST.out.2.2, HKI.out.trans hk2⟩
          case measure => omega
        · obtain rfl : j = k := by omega
          have hrv : x = rv y j m := by
            have := HRV.out
            rw [Nat.sub_self] at this
            simpa [rv] using this
          have hx2 : x ≤ 65535 := by
            have h16 : 2 ^ (m + j) ≤ 2 ^ 16 := Nat.pow_le_pow_right (by decide) (by omega)
            have e16 : (2 : Nat) ^ 16 = 65536 := rfl
            rw [e16] at h16
            omega
          have hkwr : Keeps w wr := (HKK.out.new HK0.out (fun i hi => by omega)).trans HKI.out
          have hHx := fun (W : World) (hW : Keeps wr W) => HH.out x hx0 hx2 W (hkwr.trans hW)
          obtain ⟨bv, hbv⟩ : ∃ bv, bv = hS M f x (M.n - (m : Int)).toNat (m : Int) e := ⟨_, rfl⟩
          rw [← hbv] at hHx
          have hts : ts[y]? = some bv := by
            rw [HAT.out y hlt, Int.zero_add, ← hrv, hbv]
            rfl
          have HHx := Lib.hid hHx
          have HTS := Lib.hid hts
          have HBI := Lib.hid (HB.out.keep (Keeps.upd HKI.out (fun _ => False)) (fun h => h))
          have hul : Upd (fun j => j = w.heap.size + 1) w1 wr := HK0.out.trans' (Keeps.upd HKI.out _)
          have HUL := Lib.hid hul
          have z0 := hul.cellAt (b := w.heap.size) (by omega) x0
          have z1 := hul.cellAt (b := w.heap.size) (by omega) x1
          have cD := HBI.out.cell (i := y) (b := bs[y]'(by rw [HBL.out]; exact hlt)) (List.getElem?_eq_getElem _)
          have fD := HBI.out.frozen y
          have lB := HBI.out.lt
          clear hkwr hHx hbv hts hul hrv hx0 hx1 HRV
          go_wp2_with (first
            | (go_at_call 95; with_reducible refine (HHx.out _ (Keeps.refl _)).mono ?_; rintro e2 w2 ⟨rfl, hk2⟩; have cE := hk2.cell cD; have fE := hk2.frz (a := ⟨w.heap.size + 1, y, none⟩) lB fD)
            | fail)
          go_roundg (g0 - 1)
          case rel => exact ⟨y + 1, bs.set y bv, by have := HG0.out; omega, by simp, by rw [List.length_set]; exact HBL.out, (HBI.out.keep (Keeps.upd hk2 (fun _ => False)) (fun h => h)).set y bv, fun i hi => by
            by_cases e : i = y
            · subst e
              rw [List.getElem?_set_self (by rw [HBL.out]; exact hlt)]
              exact HTS.out.symm
            · rw [List.getElem?_set_ne (fun hh => e hh.symm)]
              exact HAG.out i (by omega), (HUL.out.trans' (Keeps.upd hk2 _)).setCell (p := ⟨w.heap.size + 1, y, none⟩) (Or.inl rfl) _⟩
          case measure => have := HG0.out; omega
    · obtain rfl : y = p := by omega
      have hbs : bs = ts := by
        apply List.ext_getElem?
        intro i
        by_cases hi : i < y
        · exact HAG.out i hi
        · rw [List.getElem?_eq_none (by rw [HBL.out]; omega), List.getElem?_eq_none (by rw [HLEN.out]; omega)]
      have HBS := Lib.hid hbs
      clear hbs
      go_wp2_with fail
      go_ret
      exact ⟨w.heap.size + 1, rfl, by omega, by rw [← HBS.out]; exact HB.out, HKK.out.new HK0.out (fun i hi => by omega)⟩

end Go.Proofs.Ytoeoehbpahodnaa

namespace Go.Proofs.Ytoeoehbpahodnaa
set_option linter.unusedSimpArgs false
set_option linter.unusedVariables false
set_option maxHeartbeats 600000

def vb (X : Nat) (v : Int) : Nat := if bitB (X : Int) v = true then 1 else 0

theorem vb_le (X : Nat) (v : Int) : vb X v ≤ 1 := by unfold vb; split <;> decide

def upN (X : Nat) : List Int → Nat
  | [] => 0
  | v :: ps => vb X v + 2 * upN X ps

def dnN (X : Nat) : List Int → Nat
  | [] => 0
  | v :: ps => vb X v * 2 ^ ps.length + dnN X ps

theorem dnN_lt (X : Nat) : ∀ ps : List Int, dnN X ps < 2 ^ ps.length := by
  intro ps
  induction ps with
  | nil => exact Nat.one_pos
  | cons v ps ih =>
    have := vb_le X v
    have e2 : 2 ^ (v :: ps).length = 2 ^ ps.length * 2 := by rw [List.length_cons, Nat.pow_succ]
    show vb X v * 2 ^ ps.length + dnN X ps < _
    rw [e2]
    rcases Nat.le_one_iff_eq_zero_or_eq_one.1 this with h | h
    · rw [h]; omega
    · rw [h]; omega

theorem dnN_snoc (X : Nat) : ∀ (ps : List Int) (v : Int), dnN X (ps ++ [v]) = 2 * dnN X ps + vb X v := by
  intro ps
  induction ps with
  | nil => intro v; show vb X v * 2 ^ 0 + 0 = 2 * 0 + vb X v; omega
  | cons a ps ih =>
    intro v
    show vb X a * 2 ^ (ps ++ [v]).length + dnN X (ps ++ [v]) = 2 * (vb X a * 2 ^ ps.length + dnN X ps) + vb X v
    rw [ih, List.length_append]
    show vb X a * 2 ^ (ps.length + 1) + _ = _
    rw [Nat.pow_succ, ← Nat.mul_assoc]
    omega

theorem rv_dnN (X : Nat) : ∀ (ps : List Int) (m : Nat), rv (dnN X ps) ps.length m = 2 ^ m * (upN X ps : Int) := by
  intro ps
  induction ps with
  | nil => intro m; show (0 : Int) = 2 ^ m * ((0 : Nat) : Int); simp
  | cons v ps ih =>
    intro m
    have hl := dnN_lt X ps
    have hp : 0 < 2 ^ ps.length := Nat.pow_pos (by decide)
    show (if (vb X v * 2 ^ ps.length + dnN X ps) / 2 ^ ps.length % 2 = 1 then (2 : Int) ^ m else 0) + rv ((vb X v * 2 ^ ps.length + dnN X ps) % 2 ^ ps.length) ps.length (m + 1) = 2 ^ m * ((vb X v + 2 * upN X ps : Nat) : Int)
    have e1 : (vb X v * 2 ^ ps.length + dnN X ps) / 2 ^ ps.length = vb X v := by
      rw [Nat.mul_comm, Nat.mul_add_div hp, Nat.div_eq_of_lt hl, Nat.add_zero]
    have e2 : (vb X v * 2 ^ ps.length + dnN X ps) % 2 ^ ps.length = dnN X ps := by
      rw [Nat.mul_comm, Nat.mul_add_mod, Nat.mod_eq_of_lt hl]
    rw [e1, e2, ih]
    have h1 := vb_le X v
    rw [Int.pow_succ]
    rcases Nat.le_one_iff_eq_zero_or_eq_one.1 h1 with h | h
    · rw [h, if_neg (by decide)]
      push_cast
      rw [Int.mul_assoc, Int.zero_add, Int.zero_add]
    · rw [h, if_pos (by decide)]
      push_cast
      rw [Int.mul_assoc, Int.mul_add]
      omega

theorem bitB_testBit (y j : Nat) : bitB (y : Int) (j : Int) = y.testBit j := by
  rw [bitB_nat, Nat.testBit_eq_decide_div_mod_eq]

theorem upN_bit (X : Nat) : ∀ (ps : List Int) (j : Nat), (upN X ps).testBit j = match ps[j]? with | some v => bitB (X : Int) v | none => false := by
  intro ps
  induction ps with
  | nil => intro j; show (0 : Nat).testBit j = _; simp
  | cons v ps ih =>
    intro j
    show (vb X v + 2 * upN X ps).testBit j = _
    cases j with
    | zero =>
      rw [Nat.testBit_zero]
      show decide ((vb X v + 2 * upN X ps) % 2 = 1) = bitB (X : Int) v
      unfold vb
      cases bitB (X : Int) v with
      | true => rw [if_pos rfl]; exact decide_eq_true (by omega)
      | false => rw [if_neg (by simp)]; exact decide_eq_false (by omega)
    | succ j =>
      rw [Nat.testBit_succ]
      have e : (vb X v + 2 * upN X ps) / 2 = upN X ps := by have := vb_le X v; omega
      rw [e, ih]
      rfl

theorem swB_step {ps : List Int} {i : Nat} (h : i + 1 < ps.length) (X : Nat) : SwB (i : Int) (upN X (stepL ps i) : Int) (upN X ps : Int) := by
  have key : ∀ j : Nat, bitB (upN X (stepL ps i) : Int) (j : Int) = match (if j = i then ps[i + 1]? else if j = i + 1 then ps[i]? else ps[j]?) with | some v => bitB (X : Int) v | none => false := fun j => by
    rw [bitB_testBit, upN_bit, stepL_get h]
  have key2 : ∀ j : Nat, bitB (upN X ps : Int) (j : Int) = match ps[j]? with | some v => bitB (X : Int) v | none => false := fun j => by
    rw [bitB_testBit, upN_bit]
  refine ⟨?_, ?_, fun j h0 h1 h2 => ?_⟩
  · rw [key i, if_pos rfl, show (i : Int) + 1 = ((i + 1 : Nat) : Int) by push_cast; rfl, key2]
  · rw [show (i : Int) + 1 = ((i + 1 : Nat) : Int) by push_cast; rfl, key (i + 1), if_neg (by omega), if_pos rfl, key2]
  · obtain ⟨j, rfl⟩ : ∃ k : Nat, j = (k : Int) := ⟨j.toNat, by omega⟩
    rw [key j, if_neg (by omega), if_neg (by omega), key2]

def tabP (M : St) (ps : List Int) (f : Int) (e : Edge) : List Bool := (List.range (2 ^ ps.length)).map (fun X => tv M f (upN X ps : Int) 0 e)

theorem tabP_len (M : St) (ps : List Int) (f : Int) (e : Edge) : (tabP M ps f e).length = 2 ^ ps.length := by unfold tabP; simp

theorem tabP_get {M : St} {ps : List Int} {f : Int} {e : Edge} {X : Nat} (h : X < 2 ^ ps.length) : (tabP M ps f e)[X]? = some (tv M f (upN X ps : Int) 0 e) := by
  unfold tabP
  simp [h]

theorem tabP_ext {M M' : St} (h : M.wf) (hE : Ext M M') {ps : List Int} {f : Int} {e : Edge} (hl : M.leads f e 0 = true) : tabP M' ps f e = tabP M ps f e := by
  unfold tabP
  refine List.map_congr_left fun X _ => ?_
  exact tv_ext h hE (Weak.of hl)

theorem tabE_dnN {M : St} {ps : List Int} {f : Int} {e : Edge} (hn : M.n = (ps.length : Int)) (X : Nat) : (tabE M f e 0)[dnN X ps]? = some (tv M f (upN X ps : Int) 0 e) := by
  unfold tabE
  rw [show (M.n - 0).toNat = ps.length by omega]
  show (tabX _ ps.length 0 0)[dnN X ps]? = _
  rw [tabX_at _ _ _ _ (dnN_lt X ps), rv_dnN]
  simp

theorem GoodS.tabP {lv : Nat} {f : Int} {M : St} {e x : Edge} (h : GoodS (lv : Int) f M e 0 x) {ps : List Int} (hlv : lv + 1 < ps.length) : tabP M (stepL ps lv) f x = tabP M ps f e := by
  unfold Go.Proofs.Ytoeoehbpahodnaa.tabP
  rw [stepL_len]
  exact List.map_congr_left fun X _ => h.means _ _ (swB_step hlv X)

end Go.Proofs.Ytoeoehbpahodnaa

namespace Go.Proofs.Ytoeoehbpahodnaa
set_option linter.unusedSimpArgs false
set_option linter.unusedVariables false
set_option maxHeartbeats 600000

def Fit0 (M : St) : Prop := ∀ id r, look M.cs id = some r → 0 ≤ r.lo.to ∧ 0 ≤ r.hi.to

theorem find_fit0 {M : St} (hw : M.wf) (h : Fit0 M) {q : Rec} (hq : 0 ≤ q.lo.to ∧ 0 ≤ q.hi.to) : Fit0 (M.findSt q) := by
  unfold St.findSt
  cases M.idOf q with
  | some id => exact h
  | none =>
    simp only []
    split
    · exact h
    · split
      · exact h
      · intro id r hr
        rcases (look_put hw.gone id r).1 hr with ⟨_, rfl⟩ | hr
        · exact hq
        · exact h id r hr

theorem view_fit0 {M : St} (hw : M.wf) (h : Fit0 M) {f : Int} {e : Edge} {l : Int} (hl : M.leads f e l = true) (h0 : 0 ≤ l) (h1 : l < M.n) (he : 0 ≤ e.to) (hv : vErr M (viewAct M f e l) = 0) :
    0 ≤ (vLo M (viewAct M f e l)).to ∧ 0 ≤ (vHi M f (viewAct M f e l)).to ∧ Fit0 (vSt M (viewAct M f e l)) := by
  have hout : ∀ a, a = (.inl (vOut f l e) : (Edge × Edge × Int) ⊕ Rec) → 0 ≤ (vLo M a).to ∧ 0 ≤ (vHi M f a).to ∧ Fit0 (vSt M a) := fun a ha => by
    subst ha
    refine ⟨?_, ?_, h⟩
    · show 0 ≤ (vOut f l e).1.to
      unfold vOut
      split
      · exact he
      · split <;> exact he
    · show 0 ≤ (vOut f l e).2.1.to
      unfold vOut
      split
      · exact he
      · split <;> exact Int.le_refl _
  obtain ⟨va, hva⟩ : ∃ va, va = viewAct M f e l := ⟨_, rfl⟩
  rw [← hva] at hv ⊢
  have hva2 := hva
  unfold viewAct at hva2
  rw [if_neg (by omega), if_neg (by rw [hl]; simp)] at hva2
  split at hva2
  · rw [hva2]
    exact ⟨he, he, h⟩
  · cases hk : look M.cs e.to with
    | none =>
      rw [hk] at hva2
      exact hout va hva2
    | some r =>
      rw [hk] at hva2
      simp only [] at hva2
      obtain ⟨r1, r2⟩ := h _ _ hk
      by_cases hlt : l < r.top
      · rw [if_pos hlt] at hva2
        exact hout va hva2
      · rw [if_neg hlt] at hva2
        split at hva2
        · rw [hva2] at hv ⊢
          change M.findErr ⟨r.form, r.top + 1, r.bot, r.lo, r.hi⟩ = 0 at hv
          have hid : 0 ≤ (foundE M 0 ⟨r.form, r.top + 1, r.bot, r.lo, r.hi⟩).to := by
            rw [foundE_ok hv]
            show 0 ≤ M.findId _
            unfold St.findErr at hv
            unfold St.findId
            cases hi : M.idOf ⟨r.form, r.top + 1, r.bot, r.lo, r.hi⟩ with
            | some id => have := (look_some (idOf_look hi)).1; simp only []; omega
            | none =>
              rename_i hcc
              have g := hw.goodRec hk
              have hrf : r.form = f := (leads_some hl hk).1
              have hb : M.bad ⟨r.form, r.top + 1, r.bot, r.lo, r.hi⟩ = false := rest_good g hw.n16 (by have := (leads_some hl hk).2.1; omega) (by rw [hrf]; exact hcc.1) hcc.2
              have := (find_zero hw hb (by unfold St.findErr; rw [hi] at hv ⊢; exact hv)).2.2.2.1
              unfold St.findId at this
              rw [hi] at this
              omega
          refine ⟨hid, ?_, find_fit0 hw h ⟨r1, r2⟩⟩
          show 0 ≤ (if M.findErr _ = 0 then (if f = 4 then foundE M 0 _ else r.hi) else ⟨0, 0⟩ : Edge).to
          rw [if_pos hv]
          split
          · exact hid
          · exact r2
        · rw [hva2]
          exact ⟨r1, r2, h⟩

theorem right_table {f : Int} (hf : 1 ≤ f ∧ f ≤ 5) : ∀ (k : Nat) (l : Int) (M : St) (e : Edge), M.wf → M.room = 1048576 → M.len + ((2 ^ k : Nat) : Int) ≤ 1048576 → 0 ≤ e.to → Fit0 M → M.leads f e l = true → rightK M f e l → 0 ≤ l → l + (k : Int) = M.n →
    ∃ M', Ext M M' ∧ M'.wf ∧ M'.room = 1048576 ∧ M'.len + 1 ≤ M.len + ((2 ^ k : Nat) : Int) ∧ Fit0 M' ∧ IsT f M' k (tabE M f e l) l e := by
  intro k
  induction k with
  | zero =>
    intro l M e hw hr hlen he hfit hl hrt h0 hn
    have hn' : l = M.n := by simpa using hn
    have e0 : (M.n - l).toNat = 0 := by omega
    refine ⟨M, Ext.refl M, hw, hr, by show M.len + 1 ≤ M.len + ((1 : Nat) : Int); omega, hfit, ?_⟩
    by_cases hz : e.to = 0
    · have := (good_zero hw hf hf hl h0 hz).own hrt
      rw [e0] at this
      exact this
    · have hok : e.ok := by
        obtain ⟨hp, hr2⟩ := leads_iff.1 hl
        obtain ⟨p1, p2, p3, p4, p5, p6, p7, p8⟩ := plainB_iff.1 hp
        have ht : e.to < 2 := by
          rcases hr2 with q | ⟨r, a, b, c, d⟩
          · exact q
          · have g := hw.goodRec a
            have := g.tb
            have := g.bn
            omega
        refine ⟨?_, ⟨he, by omega⟩⟩
        by_cases h5 : f = 5
        · have := p8 h5 hz
          omega
        · have := p7 (.inl h5)
          omega
      have := (good_end hw hf hf hok hl hn' hz).own hrt
      rw [e0] at this
      exact this
  | succ k ih =>
    intro l M e hw hr hlen he hfit hl hrt h0 hn
    push_cast at hn
    have e2 : 2 ^ (k + 1) = 2 ^ k + 2 ^ k := by rw [Nat.pow_succ]; omega
    have hp : 0 < 2 ^ k := Nat.pow_pos (by decide)
    have h1 : l < M.n := by omega
    have hv0 : vErr M (viewAct M f e l) = 0 := by
      by_cases hv : vErr M (viewAct M f e l) = 0
      · exact hv
      · have := (viewed_full hw hl h1 hv).2.2
        omega
    have hv := viewed hw hl h1 hv0
    obtain ⟨hp1, hp2, hp3⟩ := view_pair hw hl h0 h1 hv0 hrt rfl rfl rfl
    obtain ⟨olo, ohi, hstep⟩ := view_fit0 hw hfit hl h0 h1 he hv0
    obtain ⟨M1, hM1⟩ : ∃ N, N = vSt M (viewAct M f e l) := ⟨_, rfl⟩
    obtain ⟨lo, hlo⟩ : ∃ N, N = vLo M (viewAct M f e l) := ⟨_, rfl⟩
    obtain ⟨hi, hhi⟩ : ∃ N, N = vHi M f (viewAct M f e l) := ⟨_, rfl⟩
    rw [← hM1, ← hlo, ← hhi] at hv hp1
    rw [← hM1, ← hlo] at hp2
    rw [← hM1, ← hhi] at hp3
    rw [← hlo] at olo
    rw [← hhi] at ohi
    rw [← hM1] at hstep
    have n1 := hv.ext.n
    obtain ⟨M2, x1, x2, x3, x4, x5, x7⟩ := ih (l + 1) M1 lo hv.wf (by rw [hv.room]; exact hr) (by have := hv.len; omega) olo hstep hv.llo hp2 (by omega) (by omega)
    have n2 := x1.n
    obtain ⟨M3, y1, y2, y3, y4, y5, y7⟩ := ih (l + 1) M2 hi x2 x3 (by have := hv.len; omega) ohi x5 (x1.leads hv.lhi) (rightK_ext x1 hv.wf hp3) (by omega) (by omega)
    refine ⟨M3, (hv.ext.trans x1).trans y1, y2, y3, by have := hv.len; omega, y5, ?_⟩
    rw [tabE_ext hv.wf x1 (Weak.of hv.lhi)] at y7
    have hk1 : (M1.n - (l + 1)).toNat = k := by omega
    have tl : (tabE M1 f lo (l + 1)).length = 2 ^ k := by rw [tabE_len, hk1]
    have tl2 : (tabE M1 f hi (l + 1)).length = 2 ^ k := by rw [tabE_len, hk1]
    rw [tab_split hv h0 h1]
    refine ⟨by rw [List.length_append, tl, tl2, e2], lo, hi, ?_, ?_, (hp1.ext x1 hf).ext y1 hf⟩
    · rw [List.take_left' tl]
      exact IsT.ext y1 hf _ _ _ _ x7
    · rw [List.drop_left' tl]
      exact y7

theorem Fit0.vast {M : St} (h : Fit0 M) : Fit0 M.vast := h

theorem right_isT {f : Int} (hf : 1 ≤ f ∧ f ≤ 5) {M : St} {e : Edge} {k : Nat} {l : Int} (hw : M.wf) (hlen : M.len + ((2 ^ k : Nat) : Int) ≤ 1048576) (he : 0 ≤ e.to) (hfit : Fit0 M) (hl : M.leads f e l = true) (hr : rightK M f e l) (h0 : 0 ≤ l) (hn : l + (k : Int) = M.n) :
    ∃ M', Ext M M' ∧ M'.wf ∧ M'.room = 1048576 ∧ M'.len + 1 ≤ M.len + ((2 ^ k : Nat) : Int) ∧ Fit0 M' ∧ IsT f M' k (tabE M f e l) l e := by
  have hE := Ext.vast M
  obtain ⟨M', x1, x2, x3, x4, x5, x6⟩ := right_table hf k l M.vast e hw.vast rfl hlen he hfit (hE.leads hl) (rightK_ext hE hw hr) h0 hn
  rw [tabE_ext hw hE (Weak.of hl)] at x6
  exact ⟨M', hE.trans x1, x2, x3, x4, x5, x6⟩

theorem StoreRep.fit0 {F : Nat → Prop} {w : World} {sb : Nat} {M : St} (h : StoreRep F w sb M) : Fit0 M := fun id r hr => by
  have := h.fit hr
  exact ⟨this.lo.2.1, this.hi.2.1⟩

end Go.Proofs.Ytoeoehbpahodnaa
