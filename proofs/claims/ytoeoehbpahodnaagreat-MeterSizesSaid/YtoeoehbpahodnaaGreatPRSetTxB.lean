/-
  ramageref05.bit, Right, Table.
-/
import Derived.Test.YtoeoehbpahodnaaGreatPSwapUxB
namespace Go.Proofs.YtoeoehbpahodnaaGreat
set_option linter.unusedSimpArgs false
set_option linter.unusedVariables false
set_option maxHeartbeats 600000
open Go.RowKit

theorem bit_calls (V x : Nat) (hV : V < 18446744073709551616) (hx : x ≤ 64) (w : World) : Calls Tryz.prog 72 #[.int .u64 (V : Int), .int .i64 (x : Int)] w fun e w' => e = .returned (.bool (V / 2 ^ x % 2 == 1)) ∧ w = w' := by
  go_enter Tryz.func72, Tryz.ntmps72
  go_wp2
  go_loopg [0, 5] x (fun gk s0 s5 wr => ∃ d : Nat, d + gk = x ∧ s5 = .int .i64 (d : Int) ∧ s0 = .int .u64 ((V / 2 ^ d : Nat) : Int) ∧ w = wr)
  case atStart => exact ⟨0, by omega, rfl, by simp, rfl⟩
  case round =>
    obtain ⟨d, hd, rfl, rfl, rfl⟩ := hrel
    have hle : V / 2 ^ d ≤ V := Nat.div_le_self _ _
    have hnx : V / 2 ^ (d + 1) = V / 2 ^ d / 2 := by rw [Nat.pow_succ, Nat.div_div_eq_div_mul]
    by_cases hlt : d < x
    · obtain ⟨q, hq⟩ : ∃ q, q = V / 2 ^ d := ⟨_, rfl⟩
      rw [← hq] at hle hnx ⊢
      have HNX := Lib.hid hnx
      clear hq hnx
      go_wp2
      go_roundg (gk - 1)
      case rel => exact ⟨d + 1, by omega, by simp, by rw [HNX.out]; simp, rfl⟩
      case measure => omega
    · have e : d = x := by omega
      subst e
      obtain ⟨q, hq⟩ : ∃ q, q = V / 2 ^ d := ⟨_, rfl⟩
      rw [← hq] at hle ⊢
      have hb : (((q : Nat) : Int) % 2 == 1) = (q % 2 == 1) := by
        rw [Bool.eq_iff_iff]
        simp only [beq_iff_eq]
        omega
      have HQ := Lib.hid hq
      clear hq hnx
      go_wp2
      go_ret
      exact ⟨by rw [← HQ.out, ← hb]; rfl, rfl⟩

theorem word_lt {V s : Nat} (hV : V < 2 ^ 64) : V < 2 ^ s ↔ ∀ x, s ≤ x → x < 64 → V / 2 ^ x % 2 ≠ 1 := by
  constructor
  · intro h x h1 _ h3
    have hb : V.testBit x = true := by rw [Nat.testBit_eq_decide_div_mod_eq]; simp [h3]
    rw [Nat.testBit_lt_two_pow (Nat.lt_of_lt_of_le h (Nat.pow_le_pow_right (by decide) h1))] at hb
    cases hb
  · intro h
    apply Nat.lt_pow_two_of_testBit
    intro i hi
    by_cases h64 : i < 64
    · have := h i hi h64
      rw [Nat.testBit_eq_decide_div_mod_eq]
      simp [this]
    · exact Nat.testBit_lt_two_pow (Nat.lt_of_lt_of_le hV (Nat.pow_le_pow_right (by decide) (by omega)))

set_option maxRecDepth 100000 in
set_option maxHeartbeats 2000000 in
theorem refSet_calls (n : Int) (aw : Option Addr) (len cap : Nat) (ws : List Int) (w : World) (hl : ws.length = len) (hlen : len ≤ 1048576) (hW : WordsAt w aw ws) :
    Calls Tryz.prog 16 #[.agg #[.int .i64 n, .slice aw len cap]] w fun e w' => e = .returned (.bool (setOkB n ws)) ∧ Keeps w w' := by
  by_cases hn0 : n < 0
  · have hb : setOkB n ws = false := by
      cases hb : setOkB n ws with
      | false => rfl
      | true => have := (setOkB_iff.1 hb).1; omega
    rw [hb]
    clear hb hW hl hlen
    go_enter Tryz.func16, Tryz.ntmps16
    go_wp2
    go_ret
    exact ⟨rfl, by (exact kp)⟩
  by_cases hn16 : 16 < n
  · have hb : setOkB n ws = false := by
      cases hb : setOkB n ws with
      | false => rfl
      | true => have := (setOkB_iff.1 hb).1; omega
    rw [hb]
    clear hb hW hl hlen
    go_enter Tryz.func16, Tryz.ntmps16
    go_wp2
    go_ret
    exact ⟨rfl, by (exact kp)⟩
  obtain ⟨N, rfl⟩ : ∃ N : Nat, n = (N : Int) := ⟨n.toNat, by omega⟩
  have hpw : 2 ^ N ≤ 2 ^ 16 := Nat.pow_le_pow_right (by decide) (by omega)
  have e16 : (2 : Nat) ^ 16 = 65536 := rfl
  have hmax := words_max N (by omega)
  obtain ⟨sz, hsz⟩ : ∃ sz, sz = 2 ^ N := ⟨_, rfl⟩
  have hsz1 : 1 ≤ sz := by rw [hsz]; exact Nat.pow_pos (by decide)
  obtain ⟨wd, hwd⟩ : ∃ wd, wd = (sz + 63) / 64 := ⟨_, rfl⟩
  have hwi : ((sz : Int) + 63) / 64 = (wd : Int) := by omega
  have hwd1 : 1 ≤ wd := by omega
  have hok2 : setOkB (N : Int) ws = (decide (len = wd) && decide (64 ≤ sz ∨ ws.getD 0 0 < 2 ^ sz)) := by
    have h6 : (6 ≤ (N : Int)) ↔ 64 ≤ sz := by
      rw [hsz]
      constructor
      · intro h
        have : 2 ^ 6 ≤ 2 ^ N := Nat.pow_le_pow_right (by decide) (by omega)
        exact this
      · intro h
        apply Classical.byContradiction
        intro hh
        have : 2 ^ N ≤ 2 ^ 5 := Nat.pow_le_pow_right (by decide) (by omega)
        have e5 : (2 : Nat) ^ 5 = 32 := rfl
        omega
    unfold setOkB
    rw [decide_eq_true (show 0 ≤ (N : Int) ∧ (N : Int) ≤ 16 by omega), Int.toNat_natCast, Bool.true_and, hl, ← hmax, ← hsz, ← hwd]
    congr 2
    rw [eq_iff_iff, h6]
  rw [hok2]
  obtain ⟨R, hR⟩ : ∃ R, R = (decide (len = wd) && decide (64 ≤ sz ∨ ws.getD 0 0 < 2 ^ sz)) := ⟨_, rfl⟩
  rw [← hR]
  have HR := Lib.hid hR
  have HSZ := Lib.hid hsz
  have HW := Lib.hid hW
  have HL := Lib.hid hl
  have hszb : sz ≤ 65536 := by omega
  have hd2 : ∀ d : Nat, d ≤ N → 2 ^ d ≤ 65536 := fun d hd => by
    have : 2 ^ d ≤ 2 ^ 16 := Nat.pow_le_pow_right (by decide) (by omega)
    omega
  have HD2 := Lib.hid hd2
  clear hok2 hmax hpw e16 hsz hW hl hd2 hR hwd
  go_enter Tryz.func16, Tryz.ntmps16
  go_wp2_with fail
  obtain ⟨W1, hW1⟩ : ∃ W1, W1 = w.alloc (.cells #[.int .i64 (N : Int), .slice aw len cap] 25) := ⟨_, rfl⟩
  rw [← hW1]
  have kW1 : Keeps w W1 := by rw [hW1]; exact (Keeps.refl _).alloc _
  have b0 : W1.cell? ⟨w.heap.size, 0, none⟩ = some (.int .i64 (N : Int)) := by rw [hW1]; simp [go_sem]
  have b1 : W1.cell? ⟨w.heap.size, 1, none⟩ = some (.slice aw len cap) := by rw [hW1]; simp [go_sem]
  clear hW1
  go_loopg [3, 4] N (fun gk s3 s4 wr => ∃ d : Nat, d + gk = N ∧ s4 = .int .i64 (d : Int) ∧ s3 = .int .i64 ((2 ^ d : Nat) : Int) ∧ W1 = wr)
  case atStart => exact ⟨0, by omega, rfl, rfl, rfl⟩
  case round =>
    obtain ⟨d, hd, rfl, rfl, rfl⟩ := hrel
    by_cases hlt : d < N
    · have hb := HD2.out d (by omega)
      obtain ⟨p, hp⟩ : ∃ p, p = 2 ^ d := ⟨_, rfl⟩
      have hp2 : 2 ^ (d + 1) = 2 * p := by rw [hp, Nat.pow_succ]; omega
      rw [← hp] at hb ⊢
      have HP2 := Lib.hid hp2
      clear hp hp2
      go_wp2_with fail
      go_roundg (gk - 1)
      case rel => exact ⟨d + 1, by omega, by simp, by rw [HP2.out]; push_cast; rfl, rfl⟩
      case measure => omega
    · have e : d = N := by omega
      subst e
      rw [← HSZ.out]
      by_cases hlw : len = wd
      · have h0 : 0 < ws.length := by rw [HL.out]; omega
        obtain ⟨v, hv⟩ : ∃ b, ws[0]? = some b := ⟨_, List.getElem?_eq_getElem h0⟩
        obtain ⟨⟨v0, v1⟩, b, off, rfl, hc⟩ := (WordsAt.keeps HW.out kW1) 0 v hv
        rw [Nat.add_zero] at hc
        obtain ⟨V, rfl⟩ : ∃ V : Nat, v = (V : Int) := ⟨v.toNat, by omega⟩
        have e64 : (2 : Int) ^ 64 = 18446744073709551616 := rfl
        have hV : V < 18446744073709551616 := by omega
        have hgd : ws.getD 0 0 = (V : Int) := by rw [List.getD_eq_getElem?_getD, hv]; rfl
        have hwl := word_lt (V := V) (s := sz) hV
        have hfin : (decide (len = wd) && decide (64 ≤ sz ∨ ws.getD 0 0 < 2 ^ sz)) = decide (64 ≤ sz ∨ V < 2 ^ sz) := by
          rw [decide_eq_true hlw, Bool.true_and, hgd]
          congr 1
          rw [eq_iff_iff]
          have ec : ((V : Int) < 2 ^ sz) ↔ V < 2 ^ sz := by
            have : (2 : Int) ^ sz = ((2 ^ sz : Nat) : Int) := by push_cast; rfl
            rw [this]
            omega
          rw [ec]
        have HR2 := Lib.hid (HR.out.trans hfin)
        have HWL := Lib.hid hwl
        have hbt := fun (x : Nat) (hx : x ≤ 64) (W : World) => bit_calls V x hV hx W
        have HBT0 := Lib.hid hbt
        clear hbt hv hgd hfin v0 v1 hwl
        subst hlw
        have hbl := lt_of_cell hc
        dsimp only at hbl
        go_wp2_with fail
        by_cases h64 : 64 ≤ sz
        · have hRt : Hid (R = true) := Lib.hid (HR2.out.trans (decide_eq_true (.inl h64)))
          go_loopg [6] 1 (fun gk s6 wr => s6 = .int .i64 (sz : Int) ∧ W1 = wr)
          case atStart => exact ⟨rfl, rfl⟩
          case round =>
            obtain ⟨rfl, rfl⟩ := hrel
            go_wp2_with fail
            go_ret
            exact ⟨by rw [hRt.out]; rfl, kW1⟩
        · go_loopg [6] (64 - sz) (fun gk s6 wr => ∃ x : Nat, x + gk = 64 ∧ sz ≤ x ∧ s6 = .int .i64 (x : Int) ∧ (∀ y, sz ≤ y → y < x → V / 2 ^ y % 2 ≠ 1) ∧ W1 = wr)
          case atStart => exact ⟨sz, by omega, Nat.le_refl _, rfl, fun y h1 h2 => by omega, rfl⟩
          case round =>
            obtain ⟨x, hxg, hsx, rfl, hno, rfl⟩ := hrel
            have HNO := Lib.hid hno
            clear hno
            by_cases hx64 : x < 64
            · have hbt := HBT0.out x (by omega)
              by_cases hbit : V / 2 ^ x % 2 = 1
              · have hf : decide (64 ≤ sz ∨ V < 2 ^ sz) = false := decide_eq_false (fun hh => by
                  rcases hh with hh | hh
                  · exact h64 hh
                  · exact (HWL.out.1 hh) x hsx hx64 hbit)
                rw [show (V / 2 ^ x % 2 == 1) = true by simp [hbit]] at hbt
                have HBT := Lib.hid hbt
                have hRt : Hid (R = false) := Lib.hid (HR2.out.trans hf)
                clear hbt hf hbit
                go_wp2_with (first | (go_at_call 72; refine (HBT.out _).mono ?_; rintro e w5 ⟨rfl, rfl⟩) | fail)
                go_ret
                exact ⟨by rw [hRt.out]; rfl, kW1⟩
              · rw [show (V / 2 ^ x % 2 == 1) = false by simp [hbit]] at hbt
                have HBT := Lib.hid hbt
                have HNB := Lib.hid hbit
                clear hbt hbit
                go_wp2_with (first | (go_at_call 72; refine (HBT.out _).mono ?_; rintro e w5 ⟨rfl, rfl⟩) | fail)
                go_roundg (gk - 1)
                case rel => exact ⟨x + 1, by omega, by omega, by simp, fun y h1 h2 => by
                  by_cases e : y = x
                  · subst e; exact HNB.out
                  · exact HNO.out y h1 (by omega), rfl⟩
                case measure => omega
            · have ht : decide (64 ≤ sz ∨ V < 2 ^ sz) = true := decide_eq_true (.inr (HWL.out.2 (fun y h1 h2 => HNO.out y h1 (by omega))))
              have hRt : Hid (R = true) := Lib.hid (HR2.out.trans ht)
              clear ht
              go_wp2_with fail
              go_ret
              exact ⟨by rw [hRt.out]; rfl, kW1⟩
      · have hne : ¬ (len : Int) = (wd : Int) := by omega
        have hRt : Hid (R = false) := Lib.hid (by rw [HR.out, decide_eq_false hlw, Bool.false_and])
        go_wp2_with fail
        go_ret
        exact ⟨by rw [hRt.out]; rfl, kW1⟩

end Go.Proofs.YtoeoehbpahodnaaGreat

namespace Go.Proofs.YtoeoehbpahodnaaGreat
set_option linter.unusedSimpArgs false
set_option linter.unusedVariables false
set_option maxHeartbeats 600000
open Go.RowKit

def BoolsIn (w : World) (a : Option Addr) (ts : List Bool) : Prop := ∀ i b, ts[i]? = some b → ∃ g off, a = some ⟨g, off, none⟩ ∧ w.cell? ⟨g, off + i, none⟩ = some (.bool b)

theorem BoolsIn.keeps {w w' : World} {a : Option Addr} {ts : List Bool} (h : BoolsIn w a ts) (hk : Keeps w w') : BoolsIn w' a ts := fun i b hb => by
  obtain ⟨g, off, ha, hc⟩ := h i b hb
  exact ⟨g, off, ha, hk.cell hc⟩

def setT (n : Nat) (ws : List Int) : List Bool := (List.range (2 ^ n)).map (hasB ws)

theorem setT_len (n : Nat) (ws : List Int) : (setT n ws).length = 2 ^ n := by unfold setT; simp

theorem setT_get {n : Nat} {ws : List Int} {x : Nat} (h : x < 2 ^ n) : (setT n ws)[x]? = some (hasB ws x) := by
  unfold setT
  rw [List.getElem?_map, List.getElem?_range h]
  rfl

theorem info_boolT : (Tryz.prog.info? 4).map (fun i => (i.zero, i.size, i.bytes)) = some (some (.bool false), 1, 1) := by kernel_rfl

theorem boolsIn_owns {w : World} {lo n cap : Nat} {a : Option Addr} {ts : List Bool} (hown : w.ownsRow lo 4 1 (.slice a n cap) n (ts.map Value.bool)) (hn : ts.length = n) : BoolsIn w a ts := fun i b hb => by
  have hi := (List.getElem?_eq_some_iff.1 hb).1
  obtain ⟨a0, c0, e, hs⟩ := owns_slice hown
  cases e
  obtain ⟨g, rfl⟩ := hs (by omega)
  refine ⟨g, 0, rfl, ?_⟩
  rw [Nat.zero_add, hown.cellAt i (by omega), List.getElem?_map, hb]
  rfl

set_option maxRecDepth 100000 in
set_option maxHeartbeats 2000000 in
theorem setTable_calls (n : Nat) (aw : Option Addr) (len cap : Nat) (ws : List Int) (w : World) (hl : ws.length = len) (hW : WordsAt w aw ws) (hok : setOkB (n : Int) ws = true) :
    Calls Tryz.prog 19 #[.agg #[.int .i64 (n : Int), .slice aw len cap]] w fun e w' => ∃ a' cap', e = .returned (.slice a' (2 ^ n) cap') ∧ BoolsIn w' a' (setT n ws) ∧ Keeps w w' := by
  obtain ⟨h0, h1, h2⟩ := setOkB_iff.1 hok
  rw [Int.toNat_natCast] at h1
  have hn16 : n ≤ 16 := by omega
  have hp16 : 2 ^ n ≤ 2 ^ 16 := Nat.pow_le_pow_right (by decide) hn16
  have e16 : (2 : Nat) ^ 16 = 65536 := rfl
  have h64 : 2 ^ n ≤ 64 ∨ ∃ k, 2 ^ n = 64 * k := by
    by_cases h6 : n ≤ 6
    · left
      have : 2 ^ n ≤ 2 ^ 6 := Nat.pow_le_pow_right (by decide) h6
      exact this
    · right
      refine ⟨2 ^ (n - 6), ?_⟩
      rw [show (64 : Nat) = 2 ^ 6 from rfl, ← Nat.pow_add]
      congr 1
      omega
  have hxl : ∀ x, x < 2 ^ n → x / 64 < ws.length := fun x hx => by
    rcases h64 with h64 | ⟨k, h64⟩
    · omega
    · rw [h64] at hx h1
      have : 64 * k / 64 = k := by omega
      omega
  have hget := fun x (hx : x < 2 ^ n) => setT_get (ws := ws) hx
  have htl := setT_len n ws
  obtain ⟨ts, hts⟩ : ∃ ts, ts = setT n ws := ⟨_, rfl⟩
  rw [← hts] at hget htl ⊢
  have hsize := fun (W : World) => size_calls n (by omega) W
  obtain ⟨p, hp⟩ : ∃ p, p = 2 ^ n := ⟨_, rfl⟩
  rw [← hp] at hsize hp16 hxl hget htl ⊢
  rw [e16] at hp16
  obtain ⟨i0, hi, hz0, hz1, hz2⟩ := info_parts info_boolT
  have HSZ := Lib.hid hsize
  have HXL := Lib.hid hxl
  have HGT := Lib.hid hget
  have HTL := Lib.hid htl
  have HW := Lib.hid hW
  have HL := Lib.hid hl
  clear hok h0 h1 h2 h64 hxl hget htl hts hsize hp hW hl e16
  go_enter Tryz.func19, Tryz.ntmps19
  go_wp2_with fail
  obtain ⟨W1, hW1⟩ : ∃ W1, W1 = w.alloc (.cells #[.int .i64 (n : Int), .slice aw len cap] 25) := ⟨_, rfl⟩
  rw [← hW1]
  have kW1 : Keeps w W1 := by rw [hW1]; exact (Keeps.refl _).alloc _
  have b0 : W1.cell? ⟨w.heap.size, 0, none⟩ = some (.int .i64 (n : Int)) := by rw [hW1]; simp [go_sem]
  have b1 : W1.cell? ⟨w.heap.size, 1, none⟩ = some (.slice aw len cap) := by rw [hW1]; simp [go_sem]
  clear hW1
  go_loopg [3, 4] p (fun gk s3 s4 wr => ∃ (x : Nat) (v : Value), x + gk = p ∧ s4 = .int .i64 (x : Int) ∧ s3 = v ∧ wr.ownsRow W1.heap.size 4 1 v x ((ts.take x).map Value.bool) ∧ Keeps W1 wr)
  case atStart => exact ⟨0, .slice none 0 0, by omega, rfl, rfl, World.ownsRow_nil _ _ _ _, Keeps.refl _⟩
  case round =>
    obtain ⟨x, v, hx, rfl, rfl, hown, hk⟩ := hrel
    obtain ⟨la, lcap, rfl, -⟩ := owns_slice hown
    have HOW := Lib.hid hown
    clear hown
    have c0 := hk.cell b0
    have c1 := hk.cell b1
    have hkw := kW1.trans hk
    have srk := hk.size
    by_cases hlt : x < p
    · have hxw := HXL.out x hlt
      obtain ⟨u, hu⟩ : ∃ b, ws[x / 64]? = some b := ⟨_, List.getElem?_eq_getElem hxw⟩
      obtain ⟨⟨u0, u1⟩, b, off, rfl, hc⟩ := (HW.out.keeps hkw) (x / 64) u hu
      obtain ⟨V, rfl⟩ : ∃ V : Nat, u = (V : Int) := ⟨u.toNat, by omega⟩
      have e64 : (2 : Int) ^ 64 = 18446744073709551616 := rfl
      have hbt := fun (W : World) => bit_calls V (x % 64) (by omega) (by omega) W
      have hval : hasB ws x = (V / 2 ^ (x % 64) % 2 == 1) := by
        unfold hasB
        rw [List.getD_eq_getElem?_getD, hu]
        have : ((V : Int) / 2 ^ (x % 64)) % 2 = ((V / 2 ^ (x % 64) % 2 : Nat) : Int) := by push_cast; rfl
        simp only [Option.getD_some]
        rw [this, Bool.eq_iff_iff]
        simp only [beq_iff_eq]
        omega
      have hxg := HGT.out x hlt
      rw [hval] at hxg
      obtain ⟨B, hB⟩ : ∃ B, B = (V / 2 ^ (x % 64) % 2 == 1) := ⟨_, rfl⟩
      rw [← hB] at hbt hxg
      have hmod : ((x % 64 : Nat) : Int) = (x : Int) % 64 := by omega
      rw [hmod] at hbt
      have HBT := Lib.hid hbt
      have HXG := Lib.hid hxg
      have hwl : x / 64 < len := by rw [← HL.out]; exact hxw
      have hbl := lt_of_cell hc
      dsimp only at hbl
      have q1 : x + 1 ≤ maxLen := by unfold maxLen; omega
      have q2 : (x + 1) * 1 ≤ 140737488355328 := by omega
      clear hu hbt hval hxg hB u0 u1 e64 hmod
      go_wp2_with fail
      refine (HSZ.out _).mono ?_
      rintro e w2 ⟨rfl, rfl⟩
      go_upto_region 5 with fail
      go_wp2_with (first
        | (go_at_call 72; refine (HBT.out _).mono ?_; rintro e w3 ⟨rfl, rfl⟩)
        | (at_builtin; refine wpList_append_own _ rfl _ _ 37 rfl W1.heap.size 4 i0 (.bool false) 1 1 Tryz.underlying37 hi hz0 hz1 hz2 rfl (by decide) (.slice la x lcap) x ((ts.take x).map Value.bool) rfl (HOW.out.alloc _) ⟨wr.heap.size, 0, none⟩ 1 1 [.bool B] rfl rfl (cell_new _ _ _ _ rfl) (by simp [Value.oneCell']) (by exact q1) (by exact q2) (by simp; omega) ?_; intro v3 w6 hown3 hg3 _)
        | fail)
      obtain ⟨lb, lcap2, rfl, -⟩ := owns_slice hown3
      have hu3 : Upd (fun k => (Value.slice la x lcap).ownBlock = some k) wr w6 := Upd.grown (by repeat (first | exact Upd.refl _ _ | refine Upd.alloc ?_ _ | refine Upd.drew ?_)) hg3 (fun k hk => .inl hk)
      have hk6 : Keeps W1 w6 := hk.new hu3 (fun k hk2 => by
        rcases HOW.out.2 with ⟨e0, _⟩ | ⟨g', cap', cur, e0, hbg, _⟩
        · rw [e0] at hk2; simp [Value.ownBlock] at hk2
        · rw [e0] at hk2; simp [Value.ownBlock] at hk2; omega)
      have HO6 := Lib.hid hown3
      clear hown3 hg3 hu3
      go_wp2_with fail
      go_roundg (gk - 1)
      case rel => exact ⟨x + 1, _, by omega, by simp, rfl, by
        have := HO6.out
        rw [take_snoc HXG.out, List.map_append]
        exact this, hk6⟩
      case measure => omega
    · have hxp : x = p := by omega
      subst hxp
      have hO := HOW.out
      rw [List.take_of_length_le (by rw [HTL.out]; exact Nat.le_refl _)] at hO
      have HO := Lib.hid hO
      clear hO
      go_wp2_with fail
      refine (HSZ.out _).mono ?_
      rintro e w2 ⟨rfl, rfl⟩
      go_wp2_with fail
      go_ret
      exact ⟨la, lcap, rfl, boolsIn_owns HO.out HTL.out, hkw⟩

set_option maxRecDepth 100000 in
set_option maxHeartbeats 2000000 in
theorem tab09_calls (a0 : Option Addr) (cap0 : Nat) (ps : List Int) (at' : Option Addr) (capt : Nat) (ts : List Bool) (w : World) (hI : IntsAt w a0 ps) (hp : permB ps = true) (hT : BoolsIn w at' ts) (hl : ts.length = 2 ^ ps.length) :
    Calls Tryz.prog 142 #[.slice a0 ps.length cap0, .slice at' (2 ^ ps.length) capt] w fun e w' => ∃ B bs, e = .returned (.slice (some ⟨B, 0, none⟩) (2 ^ ps.length) (2 ^ ps.length)) ∧ BoolsAt w' B bs ∧ bs.length = 2 ^ ps.length ∧ (∀ X, X < 2 ^ ps.length → bs[dnN X ps]? = ts[X]?) ∧ Keeps w w' := by
  obtain ⟨h16, hrng, -⟩ := permB_iff.1 hp
  have hdn := fun (X : Nat) (hX : X ≤ 65535) (W : World) (hW : Keeps w W) => down_calls a0 cap0 ps W (hI.keeps hW) h16 (fun x hx => by have := hrng x hx; omega) X hX
  have hlt := fun (X : Nat) => dnN_lt X ps
  have hinj := fun (X Y : Nat) (hX : X < 2 ^ ps.length) (hY : Y < 2 ^ ps.length) (h : dnN X ps = dnN Y ps) => dnN_inj hp hX hY h
  have hp16 : 2 ^ ps.length ≤ 2 ^ 16 := Nat.pow_le_pow_right (by decide) h16
  have e16 : (2 : Nat) ^ 16 = 65536 := rfl
  obtain ⟨p, hpp⟩ : ∃ p, p = 2 ^ ps.length := ⟨_, rfl⟩
  rw [← hpp] at hl hp16 ⊢
  simp only [← hpp] at hlt hinj
  rw [e16] at hp16
  obtain ⟨n, hn⟩ : ∃ n, n = ps.length := ⟨_, rfl⟩
  rw [← hn] at hdn ⊢
  obtain ⟨j0, hj, jz0, jz1, jz2⟩ := info_parts info_boolT
  have HDN := Lib.hid hdn
  have HLT := Lib.hid hlt
  have HINJ := Lib.hid hinj
  have HT := Lib.hid hT
  have HL := Lib.hid hl
  clear hI hp hT hl h16 hrng hdn hlt hinj hpp hn e16
  go_enter Tryz.func142, Tryz.ntmps142
  go_wp2_with (first
    | (at_make; refine wpList_make_full _ rfl _ _ 37 rfl w.heap.size 4 j0 (.bool false) 1 Tryz.underlying37 hj jz0 jz1 .i64 .i64 (p : Int) (p : Int) p rfl rfl rfl rfl (by rw [jz2]; omega) (by unfold maxLen; omega) (by simp) ?_; intro w1 hown1 hg1)
    | fail)
  have HB1 := Lib.hid (bools_made hown1)
  have hkk : Keeps w w1 := ⟨hg1.os, hg1.tape, hg1.output, hg1.size, fun i hi => hg1.block i hi (by simp)⟩
  have HKK := Lib.hid hkk
  clear hown1 hg1 hkk
  go_wp2_with fail
  go_loopg [6] p (fun gk s6 wr => ∃ (x : Nat) (bs : List Bool), x + gk = p ∧ s6 = .int .i64 (x : Int) ∧ bs.length = p ∧ BoolsAt wr w.heap.size bs ∧ (∀ X, X < x → bs[dnN X ps]? = ts[X]?) ∧ Upd (fun j => j = w.heap.size) w1 wr)
  case atStart => exact ⟨0, _, by omega, rfl, by simp, HB1.out, fun X hX => by omega, Upd.refl _ _⟩
  case round =>
    obtain ⟨x, bs, hx, rfl, hbl, hB, hag, hu⟩ := hrel
    have HB := Lib.hid hB
    have HBL := Lib.hid hbl
    have HAG := Lib.hid hag
    have HU := Lib.hid hu
    have hkw := HKK.out.new hu (fun k hk => by omega)
    have HKW := Lib.hid hkw
    clear hB hbl hag hu hkw
    by_cases hlt : x < p
    · have HDX := Lib.hid (fun (W : World) (hW : Keeps wr W) => HDN.out x (by omega) W (HKW.out.trans hW))
      have hdlt := HLT.out x
      obtain ⟨b, hb⟩ : ∃ b, ts[x]? = some b := ⟨_, List.getElem?_eq_getElem (by rw [HL.out]; exact hlt)⟩
      obtain ⟨g, off, rfl, hc0⟩ := HT.out x b hb
      have hc := HKW.out.cell hc0
      have hgl := lt_of_cell hc0
      dsimp only at hgl
      obtain ⟨D, hD⟩ : ∃ D, D = dnN x ps := ⟨_, rfl⟩
      rw [← hD] at HDX hdlt
      obtain ⟨z, hz⟩ : ∃ z, bs[D]? = some z := ⟨_, List.getElem?_eq_getElem (by rw [HBL.out]; exact hdlt)⟩
      have c1 := HB.out.cell hz
      have f1 := HB.out.frozen D
      have hne : g ≠ w.heap.size := by omega
      have hne2 : w.heap.size ≠ g := by omega
      have HDD := Lib.hid hD
      have HBB := Lib.hid hb
      have hDp : D < p := hdlt
      have hbl := HB.out.lt
      clear hb hc0 hD hz hdlt
      go_wp2_with fail
      go_region_held3 (fun w' => w'.cell? ⟨g, off + x, none⟩ = some (.bool b)) (go_keep) ((go_at_call 214; refine (HDX.out _ (by (exact kp))).mono ?_; rintro e5 w5 ⟨rfl, rfl⟩))
      all_goals (try go_wp2_with fail)
      all_goals go_roundg (gk - 1)
      all_goals (try (show gk - 1 < gk; omega))
      all_goals refine ⟨x + 1, bs.set D b, by omega, by simp, by rw [List.length_set, HBL.out], ?_, fun X hX => ?_, ?_⟩
      all_goals first
        | exact (HU.out.setCell (p := ⟨w.heap.size, D, none⟩) (.inl rfl) _).drew
        | exact HU.out.drew.setCell (p := ⟨w.heap.size, D, none⟩) (.inl rfl) _
        | exact HU.out.setCell (p := ⟨w.heap.size, D, none⟩) (.inl rfl) _
        | exact ((HB.out.set D b).keep (Keeps.upd ((Keeps.refl _).drew) (fun _ => False)) (fun h => h))
        | (by_cases e : X = x
           · subst e
             rw [← HDD.out, List.getElem?_set_self (by rw [HBL.out]; exact hDp), HBB.out]
           · have hne3 : D ≠ dnN X ps := fun e2 => e (HINJ.out X x (by omega) hlt (e2.symm.trans HDD.out))
             rw [List.getElem?_set_ne hne3]
             exact HAG.out X (by omega))
    · have hxp : x = p := by omega
      subst hxp
      go_wp2_with fail
      go_ret
      exact ⟨w.heap.size, bs, rfl, HB.out, HBL.out, HAG.out, HKW.out⟩

theorem tab_bldT {ps ws : List Int} {bs : List Bool} (hp : permB ps = true) (hl : bs.length = 2 ^ ps.length) (h : ∀ X, X < 2 ^ ps.length → bs[dnN X ps]? = (setT ps.length ws)[X]?) : bs = bldT (hasB ws) ps 0 := by
  apply List.ext_getElem?
  intro y
  by_cases hy : y < 2 ^ ps.length
  · obtain ⟨X, hX, rfl⟩ := dnN_onto hp hy
    rw [h X hX, setT_get hX, bldT_dnN, putV_all hp hX]
  · rw [List.getElem?_eq_none (by omega), List.getElem?_eq_none (by rw [bldT_len]; omega)]

end Go.Proofs.YtoeoehbpahodnaaGreat
