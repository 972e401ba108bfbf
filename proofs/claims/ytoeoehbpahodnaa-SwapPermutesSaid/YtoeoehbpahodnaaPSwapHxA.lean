/-
  Rows of ints and of roots that came in, opened; law26.roots.
-/
import Derived.Test.YtoeoehbpahodnaaPHoldsYxA
import Derived.Test.YtoeoehbpahodnaaPSwapU
namespace Go.Proofs.Ytoeoehbpahodnaa
set_option linter.unusedSimpArgs false
set_option linter.unusedVariables false
set_option maxHeartbeats 600000
open Go.ChangeShapes Go.WideShapes Go.ChangeAt Go.RowKit

def IsRootRow (w : World) (a : Option Addr) (len : Nat) (rs : List (Int × Edge)) : Prop := rs.length = len ∧ IsRoots w a rs

set_option maxRecDepth 100000 in
theorem root_cells {H : Type} {enc : TypeId × Value → H} {W : World} {base : Nat} {spare : Nat → Bool} {held : Bool} {n : Nat} {cs : List Value} {x : DataW H × List MemPlace}
    (h : DataW.trod enc Try.prog W base spare held n 94 cs = some x) : ∃ r : Int × Edge, ((0 ≤ r.1 ∧ r.1 ≤ 255) ∧ r.2.ok) ∧ cs = [.int .u8 r.1, .int .u8 r.2.tag, .int .u32 r.2.to] := by
  obtain ⟨xs, m, _, _, hlen, hxs, hf⟩ := DataW.trod_struct Try.underlying94 h
  have hC : Try.prog.cellsOf 94 = 3 := by kernel_rfl
  have C8 : Try.prog.cellsOf 5 = 1 := by kernel_rfl
  have CE : Try.prog.cellsOf 63 = 2 := by kernel_rfl
  rw [hC] at hlen
  have f0 := hf 0 _ rfl
  have f1 := hf 1 _ rfl
  rw [List.getElem?_eq_getElem (by rw [hxs]; decide)] at f0 f1
  obtain ⟨a, ha, _, wa⟩ := DataW.trod_int Try.underlying5 f0
  obtain ⟨e, we, he⟩ := edge_cells f1
  match cs, hlen with
  | [c0, c1, c2], _ =>
    simp [C8, CE] at ha he
    refine ⟨(a, e), ⟨wf_u8 wa, we⟩, ?_⟩
    rw [ha, he.1, he.2]

set_option maxRecDepth 100000 in
theorem open_rootRow {H : Type} {enc : TypeId × Value → H} {W : World} {base : Nat} {spare : Nat → Bool} {held : Bool} {a : Option Addr} {len cap : Nat} {d : DataW H} {p : List MemPlace}
    (h : DataW.Trod enc Try.prog W base spare held 24 (.slice a len cap) d p) : ∃ rs : List (Int × Edge), IsRootRow W a len rs := by
  obtain ⟨rs, h1, h2⟩ := open_structs (k := 3) (fun (r : Int × Edge) cs => ((0 ≤ r.1 ∧ r.1 ≤ 255) ∧ r.2.ok) ∧ cs = [.int .u8 r.1, .int .u8 r.2.tag, .int .u32 r.2.to]) Try.underlying24 (by kernel_rfl) (by decide) (fun n cs x hx => by
    obtain ⟨r, h1, h2⟩ := root_cells hx
    exact ⟨by rw [h2]; rfl, r, h1, h2⟩) h
  refine ⟨rs, h1, fun i r hr => ?_⟩
  obtain ⟨b, off, cs, ha, ⟨hok, rfl⟩, hc⟩ := h2 i r hr
  have c0 := hc 0 (by decide)
  rw [Nat.add_zero] at c0
  exact ⟨hok.1, hok.2, b, off, ha, c0, hc 1 (by decide), hc 2 (by decide)⟩

end Go.Proofs.Ytoeoehbpahodnaa

namespace Go.Proofs.Ytoeoehbpahodnaa
set_option linter.unusedSimpArgs false
set_option linter.unusedVariables false
set_option maxHeartbeats 600000
open Go.RowKit

theorem pow_cast (n : Nat) : ((2 ^ n : Nat) : Int) = 2 ^ n := by push_cast; rfl

theorem rv_next (y k m : Nat) : rv y (k + 1) m = bitI (decide (y / 2 ^ k % 2 = 1)) * ((2 ^ m : Nat) : Int) + rv (y % 2 ^ k) k (m + 1) := by
  show (if y / 2 ^ k % 2 = 1 then (2 : Int) ^ m else 0) + _ = _
  congr 1
  by_cases h : y / 2 ^ k % 2 = 1
  · rw [if_pos h, decide_eq_true h]
    show (2 : Int) ^ m = 1 * _
    rw [Int.one_mul]
    push_cast
    rfl
  · rw [if_neg h, decide_eq_false h]
    show (0 : Int) = 0 * _
    rw [Int.zero_mul]

theorem mod_bit (y k : Nat) : y % 2 ^ (k + 1) / 2 ^ k % 2 = y / 2 ^ k % 2 ∧ y % 2 ^ (k + 1) % 2 ^ k = y % 2 ^ k := by
  have hp : 0 < 2 ^ k := Nat.pow_pos (by decide)
  constructor
  · rw [Nat.mod_pow_succ, Nat.add_mul_div_left _ _ hp, Nat.div_eq_of_lt (Nat.mod_lt _ hp), Nat.zero_add, Nat.mod_mod]
  · rw [Nat.pow_succ, Nat.mod_mul_right_mod]

theorem bitB_small {x : Int} {m : Nat} (h0 : 0 ≤ x) (h : x < ((2 ^ m : Nat) : Int)) : bitB x (m : Int) = false := by
  unfold bitB
  rw [Int.toNat_natCast, ← pow_cast, Int.ediv_eq_zero_of_lt h0 h]
  rfl

theorem put_calls (x v b : Int) (w : World) (hx0 : 0 ≤ x) (hx1 : x ≤ 65535) (hv0 : 0 ≤ v) (hv1 : v ≤ 16) (hb0 : 0 ≤ b) (hb1 : b ≤ 1) (hz : bitB x v = false) :
    Calls Try.prog 93 #[.int .i64 x, .int .i64 v, .int .i64 b] w fun e w' => e = .returned (.int .i64 (x + b * ((2 ^ v.toNat : Nat) : Int))) ∧ Keeps w w' := by
  obtain ⟨n, rfl⟩ : ∃ n : Nat, v = (n : Int) := ⟨v.toNat, by omega⟩
  have HV := Lib.hid (fun (W : World) => value_calls x n W hx0 hx1 hv0 hv1)
  have HS := Lib.hid (fun (W : World) => size_calls n (by omega) W)
  rw [hz] at HV
  have hp1 : 2 ^ n ≤ 2 ^ 16 := Nat.pow_le_pow_right (by decide) (by omega)
  have e16 : (2 : Nat) ^ 16 = 65536 := rfl
  rw [Int.toNat_natCast]
  obtain ⟨p, hp⟩ : ∃ p, p = 2 ^ n := ⟨_, rfl⟩
  rw [← hp] at HS hp1 ⊢
  rw [e16] at hp1
  clear hp e16
  change Hid (∀ W, Calls Try.prog 94 #[.int .i64 x, .int .i64 n] W fun e w' => e = .returned (.int .i64 0) ∧ W = w') at HV
  have hbb : b = 0 ∨ b = 1 := by omega
  rcases hbb with rfl | rfl
  · go_enter Try.func93, Try.ntmps93
    go_wp2_with (first | (go_at_call 94; refine (HV.out _).mono ?_; rintro e w' ⟨rfl, rfl⟩) | (go_at_call 47; refine (HS.out _).mono ?_; rintro e w' ⟨rfl, rfl⟩) | fail)
    go_ret
    exact ⟨by simp, Keeps.refl _⟩
  · go_enter Try.func93, Try.ntmps93
    go_wp2_with (first | (go_at_call 94; refine (HV.out _).mono ?_; rintro e w' ⟨rfl, rfl⟩) | (go_at_call 47; refine (HS.out _).mono ?_; rintro e w' ⟨rfl, rfl⟩) | fail)
    go_ret
    exact ⟨by simp, Keeps.refl _⟩

set_option maxRecDepth 100000 in
set_option maxHeartbeats 1000000 in
theorem table_calls {F : Nat → Prop} {w : World} {mb : Nat} {M : St} {L : List (Int × Rec)} (h : RefRep F w mb M L) (f : Int) (hf : 1 ≤ f ∧ f ≤ 5) (e : Edge) (he : e.ok) (k m : Nat) (hk : (m : Int) + (k : Int) = M.n) (hl : M.leads f e (m : Int) = true) :
    Calls Try.prog 75 #[.pointer (some ⟨mb, 0, none⟩), .int .u8 f, .agg #[.int .u8 e.tag, .int .u32 e.to], .int .i64 (m : Int)] w fun r w' => ∃ B, r = .returned (.slice (some ⟨B, 0, none⟩) (2 ^ k) (2 ^ k)) ∧ w.heap.size ≤ B ∧ BoolsAt w' B (tabE M f e (m : Int)) ∧ Keeps w w' := by
  have hn16 := h.wf.n16
  have hlen : (tabE M f e (m : Int)).length = 2 ^ k := by rw [tabE_len]; congr 1; omega
  have hat : ∀ y, y < 2 ^ k → (tabE M f e (m : Int))[y]? = some (tv M f (0 + rv y k m) (m : Int) e) := fun y hy => by
    unfold tabE
    rw [show (M.n - (m : Int)).toNat = k by omega, Int.toNat_natCast]
    exact tabX_at k m 0 y hy
  have hH := fun (x : Int) (hx0 : 0 ≤ x) (hx1 : x ≤ 65535) (W : World) (hW : Keeps w W) => rholds_calls h f x hf hx0 hx1 (M.n - m).toNat (m : Int) e W hW he (by omega) (by omega) (by omega) (fun r hr2 => by obtain ⟨a, b, _⟩ := leads_some hl hr2; exact ⟨a, b⟩)
  obtain ⟨ts, hts⟩ : ∃ ts, ts = tabE M f e (m : Int) := ⟨_, rfl⟩
  rw [← hts] at hlen hat ⊢
  have c3 : w.cell? ⟨mb, 3, none⟩ = some (.int .i64 M.n) := h.vars
  have hmb := h.pos
  have HH := Lib.hid hH
  have HLEN := Lib.hid hlen
  have HAT := Lib.hid hat
  have HK := Lib.hid hk
  have hk16 : k ≤ 16 := by omega
  have hm16 : m ≤ 16 := by omega
  have HS := Lib.hid (fun (W : World) => size_calls k (by omega) W)
  have h16 : 2 ^ k ≤ 2 ^ 16 := Nat.pow_le_pow_right (by decide) hk16
  have e16 : (2 : Nat) ^ 16 = 65536 := rfl
  rw [e16] at h16
  obtain ⟨p, hp⟩ : ∃ p, p = 2 ^ k := ⟨_, rfl⟩
  rw [← hp] at HS HLEN HAT h16 ⊢
  have HP := Lib.hid hp
  obtain ⟨n, hn⟩ : ∃ n, n = M.n := ⟨_, rfl⟩
  rw [← hn] at c3 hn16
  have hnk : (n - (m : Int)) = (k : Int) := by omega
  have hmk : m + k ≤ 16 := by omega
  have h1 : n ≤ 16 := by omega
  have h2 : 0 ≤ n := by omega
  have HN := Lib.hid hn
  obtain ⟨j0, hj, jz0, jz1, jz2⟩ := info_parts (show (Try.prog.info? 4).map (fun i => (i.zero, i.size, i.bytes)) = some (some (.bool false), 1, 1) by kernel_rfl)
  clear h hlen hat hk hH hl hts hp hn e16
  go_enter Try.func75, Try.ntmps75
  go_wp2_with (first
    | (go_at_call 47; refine (HS.out _).mono ?_; rintro e2 w2 ⟨rfl, rfl⟩)
    | (at_make; refine wpList_make_full _ rfl _ _ 58 rfl (w.heap.size + 1) 4 j0 (.bool false) 1 Try.underlying58 hj jz0 jz1 .i64 .i64 (p : Int) (p : Int) p rfl rfl rfl rfl (by rw [jz2]; omega) (by unfold maxLen; omega) (by simp) ?_; intro w1 hown1 hg1)
    | fail)
  simp only [World.size_alloc] at hown1
  have HB1 := Lib.hid (bools_made hown1)
  have hkw : Keeps (w.alloc (.cells #[.int .u8 e.tag, .int .u32 e.to] 63)) w1 := ⟨hg1.os, hg1.tape, hg1.output, hg1.size, fun i hi => hg1.block i hi (by simp)⟩
  have HK1 := Lib.hid hkw
  have x0 : w1.cell? ⟨w.heap.size, 0, none⟩ = some (.int .u8 e.tag) := hkw.cell (by simp [go_sem])
  have x1 : w1.cell? ⟨w.heap.size, 1, none⟩ = some (.int .u32 e.to) := hkw.cell (by simp [go_sem])
  have hkk : Keeps w w1 := ((Keeps.refl _).alloc _).trans hkw
  have HKK := Lib.hid hkk
  clear hown1 hg1 hkw hkk
  go_loopg [11] p (fun gk s11 wr => ∃ (y : Nat) (bs : List Bool), y + gk = p ∧ s11 = .int .i64 (y : Int) ∧ bs.length = p ∧ BoolsAt wr (w.heap.size + 1) bs ∧ (∀ i, i < y → bs[i]? = ts[i]?) ∧ Upd (fun j => j = w.heap.size + 1) w1 wr)
  case atStart => exact ⟨0, _, by omega, rfl, by simp, HB1.out, fun i hi => by omega, Upd.refl _ _⟩
  case round =>
    obtain ⟨y, bs, hy, rfl, hbl, hB, hag, hk0⟩ := hrel
    have HB := Lib.hid hB
    have HBL := Lib.hid hbl
    have HAG := Lib.hid hag
    have HK0 := Lib.hid hk0
    clear hB hbl hag hk0
    by_cases hlt : y < p
    · obtain ⟨g0, hg0⟩ : ∃ g, g = gk := ⟨_, rfl⟩
      have hy16 : (y : Int) ≤ 65535 := by omega
      have HG0 := Lib.hid hg0
      clear hg0
      obtain ⟨wo, rfl⟩ : ∃ W, W = wr := ⟨wr, rfl⟩
      go_wp2_with fail
      go_loopg [12, 13] k (fun gk s12 s13 wi => ∃ (j : Nat) (x : Int), j + gk = k ∧ s13 = .int .i64 (j : Int) ∧ s12 = .int .i64 x ∧ 0 ≤ x ∧ x < ((2 ^ (m + j) : Nat) : Int) ∧ Hid (x + rv (y % 2 ^ (k - j)) (k - j) (m + j) = rv y k m) ∧ Keeps wo wi)
      case atStart =>
        refine ⟨0, 0, by omega, rfl, rfl, by omega, ?_, Lib.hid ?_, Keeps.refl _⟩
        · have : 0 < 2 ^ (m + 0) := Nat.pow_pos (by decide)
          omega
        · rw [Nat.sub_zero, Nat.add_zero, Nat.mod_eq_of_lt (by rw [← HP.out]; exact hlt)]
          omega
      case round =>
        obtain ⟨j, x, hj2, rfl, rfl, hx0, hx1, HRV, hki⟩ := hrel
        have HKI := Lib.hid hki
        clear hki
        by_cases hjk : j < k
        · obtain ⟨q, hq⟩ : ∃ q, k = j + 1 + q := ⟨k - (j + 1), by omega⟩
          have hq2 : (k : Int) - 1 - (j : Int) = (q : Int) := by omega
          have hp2 : 2 ^ (m + j) ≤ 2 ^ 15 := Nat.pow_le_pow_right (by decide) (by omega)
          have e15 : (2 : Nat) ^ 15 = 32768 := rfl
          rw [e15] at hp2
          have hz := bitB_small hx0 hx1
          obtain ⟨bb, hbb⟩ : ∃ bb, bb = bitB (y : Int) (q : Int) := ⟨_, rfl⟩
          have HV := Lib.hid (fun (W : World) => value_calls (y : Int) (q : Int) W (by omega) hy16 (by omega) (by omega))
          rw [← hbb] at HV
          have hb01 : 0 ≤ bitI bb ∧ bitI bb ≤ 1 := by cases bb <;> decide
          have HPU := Lib.hid (fun (W : World) => put_calls x ((m : Int) + (j : Int)) (bitI bb) W hx0 (by omega) (by omega) (by omega) hb01.1 hb01.2 (by rw [show (m : Int) + (j : Int) = ((m + j : Nat) : Int) by push_cast; rfl]; exact hz))
          have hstep : x + bitI bb * ((2 ^ ((m : Int) + (j : Int)).toNat : Nat) : Int) < ((2 ^ (m + (j + 1)) : Nat) : Int) ∧ 0 ≤ x + bitI bb * ((2 ^ ((m : Int) + (j : Int)).toNat : Nat) : Int) ∧ x + bitI bb * ((2 ^ ((m : Int) + (j : Int)).toNat : Nat) : Int) + rv (y % 2 ^ (k - (j + 1))) (k - (j + 1)) (m + (j + 1)) = rv y k m := by
            rw [show ((m : Int) + (j : Int)).toNat = m + j by omega]
            have e1 : 2 ^ (m + (j + 1)) = 2 ^ (m + j) * 2 := by rw [← Nat.add_assoc, Nat.pow_succ]
            have hr := HRV.out
            have ek : k - j = q + 1 := by omega
            have ek2 : k - (j + 1) = q := by omega
            rw [ek, rv_next, (mod_bit y q).1, (mod_bit y q).2, ← bitB_nat, ← hbb] at hr
            rw [ek2, ← Nat.add_assoc m j 1]
            refine ⟨?_, ?_, by rw [← hr, Int.add_assoc]⟩
            · rw [← Nat.add_assoc] at e1
              rw [e1]
              push_cast
              push_cast at hx1
              cases bb
              · show x + 0 * _ < _
                omega
              · show x + 1 * _ < _
                omega
            · cases bb
              · show 0 ≤ x + 0 * _
                omega
              · show 0 ≤ x + 1 * _
                omega
          obtain ⟨x', hx'⟩ : ∃ x', x' = x + bitI bb * ((2 ^ ((m : Int) + (j : Int)).toNat : Nat) : Int) := ⟨_, rfl⟩
          rw [← hx'] at hstep HPU
          have HST := Lib.hid hstep
          obtain ⟨b0, hb0⟩ : ∃ b0, b0 = bitI bb := ⟨_, rfl⟩
          rw [← hb0] at HV HPU
          have HQ := Lib.hid hq
          clear hstep hx' hbb hz hp2 e15 hb01 hb0 hx0 hx1 HRV hq
          go_wp2_with (first
            | (go_at_call 94; with_reducible refine (HV.out _).mono ?_; rintro e2 w2 ⟨rfl, rfl⟩)
            | (go_at_call 93; refine (HPU.out _).mono ?_; rintro e2 w2 ⟨rfl, hk2⟩)
            | fail)
          go_roundg (gk - 1)
          case rel => exact ⟨j + 1, x', by omega, by simp, rfl, HST.out.2.1, HST.out.1, Lib.hid HST.out.2.2, HKI.out.trans hk2⟩
          case measure => omega
        · obtain rfl : j = k := by omega
          have hrv : x = rv y j m := by
            have := HRV.out
            rw [Nat.sub_self] at this
            simpa [rv] using this
          have hx2 : x ≤ 65535 := by
            have h16 : 2 ^ (m + j) ≤ 2 ^ 16 := Nat.pow_le_pow_right (by decide) (by omega)
            have e16 : (2 : Nat) ^ 16 = 65536 := rfl
            rw [e16] at h16
            omega
          have hkwr : Keeps w wr := (HKK.out.new HK0.out (fun i hi => by omega)).trans HKI.out
          have hHx := fun (W : World) (hW : Keeps wr W) => HH.out x hx0 hx2 W (hkwr.trans hW)
          obtain ⟨bv, hbv⟩ : ∃ bv, bv = hS M f x (M.n - (m : Int)).toNat (m : Int) e := ⟨_, rfl⟩
          rw [← hbv] at hHx
          have hts : ts[y]? = some bv := by
            rw [HAT.out y hlt, Int.zero_add, ← hrv, hbv]
            rfl
          have HHx := Lib.hid hHx
          have HTS := Lib.hid hts
          have HBI := Lib.hid (HB.out.keep (Keeps.upd HKI.out (fun _ => False)) (fun h => h))
          have hul : Upd (fun j => j = w.heap.size + 1) w1 wr := HK0.out.trans' (Keeps.upd HKI.out _)
          have HUL := Lib.hid hul
          have z0 := hul.cellAt (b := w.heap.size) (by omega) x0
          have z1 := hul.cellAt (b := w.heap.size) (by omega) x1
          have cD := HBI.out.cell (i := y) (b := bs[y]'(by rw [HBL.out]; exact hlt)) (List.getElem?_eq_getElem _)
          have fD := HBI.out.frozen y
          have lB := HBI.out.lt
          clear hkwr hHx hbv hts hul hrv hx0 hx1 HRV
          go_wp2_with (first
            | (go_at_call 95; with_reducible refine (HHx.out _ (Keeps.refl _)).mono ?_; rintro e2 w2 ⟨rfl, hk2⟩; have cE := hk2.cell cD; have fE := hk2.frz (a := ⟨w.heap.size + 1, y, none⟩) lB fD)
            | fail)
          go_roundg (g0 - 1)
          case rel => exact ⟨y + 1, bs.set y bv, by have := HG0.out; omega, by simp, by rw [List.length_set]; exact HBL.out, (HBI.out.keep (Keeps.upd hk2 (fun _ => False)) (fun h => h)).set y bv, fun i hi => by
            by_cases e : i = y
            · subst e
              rw [List.getElem?_set_self (by rw [HBL.out]; exact hlt)]
              exact HTS.out.symm
            · rw [List.getElem?_set_ne (fun hh => e hh.symm)]
              exact HAG.out i (by omega), (HUL.out.trans' (Keeps.upd hk2 _)).setCell (p := ⟨w.heap.size + 1, y, none⟩) (Or.inl rfl) _⟩
          case measure => have := HG0.out; omega
    · obtain rfl : y = p := by omega
      have hbs : bs = ts := by
        apply List.ext_getElem?
        intro i
        by_cases hi : i < y
        · exact HAG.out i hi
        · rw [List.getElem?_eq_none (by rw [HBL.out]; omega), List.getElem?_eq_none (by rw [HLEN.out]; omega)]
      have HBS := Lib.hid hbs
      clear hbs
      go_wp2_with fail
      go_ret
      exact ⟨w.heap.size + 1, rfl, by omega, by rw [← HBS.out]; exact HB.out, HKK.out.new HK0.out (fun i hi => by omega)⟩

end Go.Proofs.Ytoeoehbpahodnaa

namespace Go.Proofs.Ytoeoehbpahodnaa
set_option linter.unusedSimpArgs false
set_option linter.unusedVariables false
set_option maxHeartbeats 600000

theorem dnN_snoc (X : Nat) : ∀ (ps : List Int) (v : Int), dnN X (ps ++ [v]) = 2 * dnN X ps + vb X v := by
  intro ps
  induction ps with
  | nil => intro v; show vb X v * 2 ^ 0 + 0 = 2 * 0 + vb X v; omega
  | cons a ps ih =>
    intro v
    show vb X a * 2 ^ (ps ++ [v]).length + dnN X (ps ++ [v]) = 2 * (vb X a * 2 ^ ps.length + dnN X ps) + vb X v
    rw [ih, List.length_append]
    show vb X a * 2 ^ (ps.length + 1) + _ = _
    rw [Nat.pow_succ, ← Nat.mul_assoc]
    omega

theorem tabP_len (M : St) (ps : List Int) (f : Int) (e : Edge) : (tabP M ps f e).length = 2 ^ ps.length := by unfold tabP; simp

end Go.Proofs.Ytoeoehbpahodnaa

namespace Go.Proofs.Ytoeoehbpahodnaa
set_option linter.unusedSimpArgs false
set_option linter.unusedVariables false
set_option maxHeartbeats 600000

theorem runL_perm (ss : List Nat) : ∀ ps : List Int, (∀ s ∈ ss, s + 1 < ps.length) → permB ps = true → permB (runL ps ss) = true := by
  induction ss with
  | nil => intro ps _ h; exact h
  | cons s ss ih =>
    intro ps h1 h2
    show permB (runL (stepL ps s) ss) = true
    exact ih _ (fun t ht => by rw [stepL_len]; exact h1 t (by simp [ht])) (stepL_perm (h1 s (by simp)) h2)

end Go.Proofs.Ytoeoehbpahodnaa

namespace Go.Proofs.Ytoeoehbpahodnaa
set_option linter.unusedSimpArgs false
set_option linter.unusedVariables false
set_option maxHeartbeats 600000
open Go.RowKit

set_option maxRecDepth 100000 in
set_option maxHeartbeats 2000000 in
theorem rmay26_calls {F : Nat → Prop} {w : World} {mb : Nat} {M : St} {L : List (Int × Rec)} (h : RefRep F w mb M L) (a1 a2 : Option Addr) (cap1 cap2 : Nat) (rs : List (Int × Edge)) (hF : IsForms w a1 (rs.map Prod.fst)) (hE : EdgesAt w a2 (rs.map Prod.snd)) (hl : rs.length ≤ 1048576) :
    Calls Try.prog 15 #[.pointer (some ⟨mb, 0, none⟩), .slice a1 rs.length cap1, .slice a2 rs.length cap2] w fun e w' => e = .returned (.int .i64 (mayL M rs)) ∧ Keeps w w' := by
  have HM := Lib.hid (fun (f : Int) (v : Edge) (hv : v.ok) (W : World) (hW : Keeps w W) => rmay_calls (h.keeps hW) f v 0 hv)
  obtain ⟨N, hN⟩ : ∃ N, N = rs.length := ⟨_, rfl⟩
  rw [← hN] at hl ⊢
  have HF := Lib.hid hF
  have HE := Lib.hid hE
  have HN := Lib.hid hN
  clear h hF hE hN
  go_enter Try.func15, Try.ntmps15
  go_wp2
  go_loopg [7] N (fun gk s7 wr => ∃ d : Nat, s7 = .int .i64 (d : Int) ∧ d + gk = N ∧ mayL M (rs.drop d) = mayL M rs ∧ Keeps w wr)
  case atStart => exact ⟨0, rfl, by omega, rfl, by (exact kp)⟩
  case round =>
    obtain ⟨d, rfl, hd, hm, hk⟩ := hrel
    have HMM := Lib.hid hm
    clear hm
    by_cases hlt : d < N
    · obtain ⟨r, hx⟩ : ∃ b, rs[d]? = some b := ⟨_, List.getElem?_eq_getElem (by rw [← HN.out]; exact hlt)⟩
      obtain ⟨f, e⟩ := r
      obtain ⟨b1, o1, rfl, c0⟩ := HF.out d f (by rw [List.getElem?_map, hx]; rfl)
      obtain ⟨hok, b2, o2, rfl, c1, c2⟩ := HE.out d e (by rw [List.getElem?_map, hx]; rfl)
      replace c0 := hk.cell c0
      replace c1 := hk.cell c1
      replace c2 := hk.cell c2
      have hdr : rs.drop d = (f, e) :: rs.drop (d + 1) := by
        obtain ⟨hi, he⟩ := List.getElem?_eq_some_iff.1 hx
        rw [List.drop_eq_getElem_cons hi, he]
      have hm := HMM.out
      rw [hdr, mayL_cons] at hm
      dsimp only at hm
      have hmy := fun (W : World) (hW : Keeps wr W) => HM.out f e hok W (hk.trans hW)
      have hrg := mayC_range M f e 0
      obtain ⟨c, hc⟩ : ∃ c, c = mayC M f e 0 := ⟨_, rfl⟩
      rw [← hc] at hmy hm hrg
      have HMs := Lib.hid hmy
      have ck0 := KWorld.cell c0
      have ck1 := KWorld.cell c1
      have ck2 := KWorld.cell c2
      have i0 : (0 : Int) ≤ (d : Int) := by omega
      have i1 : (d : Int) < (N : Int) := by omega
      clear hx hdr hmy hc hok
      by_cases hc0 : c = 0
      · subst hc0
        have hres : Hid (mayL M (rs.drop (d + 1)) = mayL M rs) := Lib.hid (by rw [← hm]; simp)
        clear hm
        go_wp2_with fail
        refine wp_region_keeps (wr) (by kernel_rfl) (by kernel_rfl) (by (exact kp)) ?_; (repeat (go_big_quiet_step ((first | (go_at_call 38; with_reducible refine Calls.keepsK (HMs.out _ (KWorld.keep _))))))); refine wpQuiet_nil ?_; rintro wq ⟨⟨_, hkq⟩, rfl⟩; try dsimp only
        clear ck0 ck1 ck2
        go_wp2_with fail
        go_roundg (gk - 1)
        case rel => exact ⟨d + 1, by simp, by omega, hres.out, hk.trans hkq⟩
        case measure => omega
      · have hres : Hid (mayL M rs = c) := Lib.hid (by rw [← hm, if_neg hc0])
        have g0 : (c != 0) = true := by simp [hc0]
        clear hm
        go_wp2_with fail
        refine wp_region_keeps (wr) (by kernel_rfl) (by kernel_rfl) (by (exact kp)) ?_; (repeat (go_big_quiet_step ((first | (go_at_call 38; with_reducible refine Calls.keepsK (HMs.out _ (KWorld.keep _))))))); refine wpQuiet_nil ?_; rintro wq ⟨⟨_, hkq⟩, rfl⟩; try dsimp only
        clear ck0 ck1 ck2
        go_wp2_with fail
        go_ret
        exact ⟨by rw [hres.out]; rfl, hk.trans hkq⟩
    · have hres : Hid (mayL M rs = 0) := Lib.hid (by rw [← HMM.out, List.drop_of_length_le (by rw [← HN.out]; omega)]; rfl)
      clear HMM
      go_wp2_with fail
      go_ret
      exact ⟨by rw [hres.out]; rfl, hk⟩

end Go.Proofs.Ytoeoehbpahodnaa

namespace Go.Proofs.Ytoeoehbpahodnaa
set_option linter.unusedSimpArgs false
set_option linter.unusedVariables false
set_option maxHeartbeats 600000

structure StepsAt (ps qs : List Int) (i : Nat) (ss : List Nat) : Prop where
  same : ∀ j, j < i → (runL ps ss)[j]? = qs[j]?
  fit : ∀ s ∈ ss, s + 1 < ps.length
  few : ss.length ≤ i * ps.length

structure StepsIn (ps qs : List Int) (i p : Nat) (x : Int) (ss : List Nat) : Prop where
  same : ∀ j, j < i → (runL ps ss)[j]? = qs[j]?
  fit : ∀ s ∈ ss, s + 1 < ps.length
  few : ss.length + p ≤ i * ps.length + ps.length
  here : (runL ps ss)[p]? = some x
  low : i ≤ p

theorem StepsIn.lt {ps qs : List Int} {i p : Nat} {x : Int} {ss : List Nat} (h : StepsIn ps qs i p x ss) : p < ps.length := by
  have := (List.getElem?_eq_some_iff.1 h.here).1
  rwa [runL_len] at this

theorem StepsAt.start (ps qs : List Int) : StepsAt ps qs 0 [] := ⟨fun j hj => by omega, (fun s hs => by cases hs), by simp⟩

theorem StepsIn.next {ps qs : List Int} {i p : Nat} {x : Int} {ss : List Nat} (h : StepsIn ps qs i (p + 1) x ss) (hp : i ≤ p) : StepsIn ps qs i p x (ss ++ [p]) := by
  have hl := h.lt
  have hl2 : p + 1 < (runL ps ss).length := by rw [runL_len]; exact hl
  refine ⟨fun j hj => ?_, fun s hs => ?_, ?_, ?_, hp⟩
  · rw [runL_snoc, stepL_get hl2, if_neg (by omega), if_neg (by omega)]
    exact h.same j hj
  · rcases List.mem_append.1 hs with g | g
    · exact h.fit s g
    · simp at g; subst g; exact hl
  · have := h.few
    rw [List.length_append, List.length_singleton]
    omega
  · rw [runL_snoc, stepL_get hl2, if_pos rfl]
    exact h.here

theorem StepsIn.out {ps qs : List Int} {i : Nat} {x : Int} {ss : List Nat} (h : StepsIn ps qs i i x ss) (hx : qs[i]? = some x) : StepsAt ps qs (i + 1) ss := by
  refine ⟨fun j hj => ?_, h.fit, ?_⟩
  · by_cases e : j = i
    · subst e
      rw [h.here, hx]
    · exact h.same j (by omega)
  · have := h.few
    rw [Nat.add_mul]
    omega

theorem StepsAt.low {ps qs : List Int} {i k : Nat} {x : Int} {ss : List Nat} (h : StepsAt ps qs i ss) (hq : permB qs = true) (hx : qs[i]? = some x) (hk : (runL ps ss)[k]? = some x) : StepsIn ps qs i k x ss := by
  have hl := (List.getElem?_eq_some_iff.1 hk).1
  rw [runL_len] at hl
  refine ⟨h.same, h.fit, by have := h.few; omega, hk, ?_⟩
  apply Classical.byContradiction
  intro hlt
  have e := h.same k (by omega)
  rw [hk] at e
  have := nodup_get (permB_iff.1 hq).2.2 hx e.symm
  omega

theorem StepsAt.has {ps qs : List Int} {i : Nat} {x : Int} {ss : List Nat} (h : StepsAt ps qs i ss) (hp : permB ps = true) (hq : permB qs = true) (hl : ps.length = qs.length) (hx : qs[i]? = some x) : x ∈ runL ps ss := by
  have h1 := runL_perm ss ps h.fit hp
  have h2 := (permB_iff.1 hq).2.1 x (List.mem_of_getElem? hx)
  have h3 := (permB_perm.1 h1).2
  rw [runL_len] at h3
  exact h3.symm.subset (mem_numsI.2 ⟨h2.1, by omega⟩)

theorem StepsAt.done {ps qs : List Int} {ss : List Nat} (h : StepsAt ps qs ps.length ss) (hl : ps.length = qs.length) : runL ps ss = qs := by
  apply List.ext_getElem?
  intro j
  by_cases hj : j < ps.length
  · exact h.same j hj
  · rw [List.getElem?_eq_none (by rw [runL_len]; omega), List.getElem?_eq_none (by omega)]

end Go.Proofs.Ytoeoehbpahodnaa
