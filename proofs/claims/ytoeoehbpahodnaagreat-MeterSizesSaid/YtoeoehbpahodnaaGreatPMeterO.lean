/-
  ramagelaw21.alive: the chapter's example.
-/
import Derived.Test.YtoeoehbpahodnaaGreatPMeterS
namespace Go.Proofs.YtoeoehbpahodnaaGreat
set_option linter.unusedSimpArgs false
set_option linter.unusedVariables false
set_option maxHeartbeats 600000
open Go.RowKit

theorem l21_sizes : sizesL 1 (bldT (hasB [3]) (numsI 1) 0) = [0, 1, 0, 1, 0] := by decide +kernel

set_option maxRecDepth 100000 in
theorem l21_alive (w : World) : Calls Tryz.prog 12 #[] w fun e w' => e = .returned (.bool true) ∧ Keeps w w' := by
  have hok : setOkB ((numsI 1).length : Int) [3] = true := by decide
  have hSZ := fun (W : World) (Fo : Nat → Prop) (ob B : Nat) (ho : OrdRep Fo W ob (numsI 1)) (hw : WordsAt W (some ⟨B, 0, none⟩) [3]) => sizes_calls ho (by decide) (some ⟨B, 0, none⟩) 1 1 (ws := [3]) rfl (by decide) hw hok
  rw [numsI_len, l21_sizes] at hSZ
  have HSZ := Lib.hid hSZ
  clear hSZ hok
  go_enter Tryz.func12, Tryz.ntmps12
  go_wp2_with fail
  refine (orderNew_calls 1 (by decide) _).mono ?_
  rintro e w1 ⟨hk1, ob, Fo, rfl, hO, hF⟩
  have HO := Lib.hid hO
  clear hO hF
  go_wp2_with fail
  have hwd : WordsAt (w1.alloc (.cells #[.int .u64 3] 84)) (some ⟨w1.heap.size, 0, none⟩) [3] := fun i x hx => by
    rcases i with _ | i
    · simp at hx; subst hx; exact ⟨by decide, _, 0, rfl, by simp [go_sem]⟩
    · simp at hx
  refine (HSZ.out _ Fo ob w1.heap.size (HO.out.keeps (by (exact kp))) hwd).mono ?_
  rintro e w2 ⟨a2, c2, rfl, hI, hk2⟩
  have HI := Lib.hid hI
  clear hI hwd
  go_wp2_with fail
  have hI5 : IntsAt (w2.alloc (.cells #[.int .i64 0, .int .i64 1, .int .i64 0, .int .i64 1, .int .i64 0] 3)) (some ⟨w2.heap.size, 0, none⟩) [0, 1, 0, 1, 0] := fun i x hx => by
    rcases i with _ | _ | _ | _ | _ | i
    · simp at hx; subst hx; exact ⟨_, 0, rfl, by simp [go_sem]⟩
    · simp at hx; subst hx; exact ⟨_, 0, rfl, by simp [go_sem]⟩
    · simp at hx; subst hx; exact ⟨_, 0, rfl, by simp [go_sem]⟩
    · simp at hx; subst hx; exact ⟨_, 0, rfl, by simp [go_sem]⟩
    · simp at hx; subst hx; exact ⟨_, 0, rfl, by simp [go_sem]⟩
    · simp at hx
  have hin := ints_calls a2 (some ⟨w2.heap.size, 0, none⟩) c2 5 [0, 1, 0, 1, 0] [0, 1, 0, 1, 0] _ (HI.out.keeps ((Keeps.refl w2).alloc _)) hI5 (by decide) (by decide)
  rw [decide_eq_true rfl] at hin
  refine hin.mono ?_
  rintro e w3 ⟨rfl, hk3⟩
  go_wp2_with fail
  go_ret
  exact ⟨rfl, by (exact kp)⟩

end Go.Proofs.YtoeoehbpahodnaaGreat

namespace Go.Proofs.YtoeoehbpahodnaaGreat
set_option linter.unusedSimpArgs false
set_option linter.unusedVariables false
set_option maxHeartbeats 600000
open Go.ChangeShapes Go.WideShapes Go.ChangeAt Go.RowKit Go.Joins Go.Deep

theorem wfU64 {n : Int} (h : (Lit.int .u64 n).wf = true) : 0 ≤ n ∧ n < 2 ^ 64 := by
  have hmin : IntKind.u64.min = 0 := rfl
  have hmax : IntKind.u64.max = 18446744073709551615 := rfl
  have e : (2 : Int) ^ 64 = 18446744073709551616 := rfl
  unfold Lit.wf at h
  simp only [Bool.and_eq_true, decide_eq_true_eq, hmin, hmax] at h
  omega

def IsWords (w : World) (a : Option Addr) (len : Nat) (ws : List Int) : Prop := ws.length = len ∧ WordsAt w a ws

set_option maxRecDepth 100000 in
theorem open_u64s {H : Type} {enc : TypeId × Value → H} {W : World} {base : Nat} {spare : Nat → Bool} {held : Bool} {a : Option Addr} {len cap : Nat} {d : DataW H} {p : List MemPlace}
    (h : DataW.Trod enc Tryz.prog W base spare held 23 (.slice a len cap) d p) : ∃ ws : List Int, IsWords W a len ws := by
  obtain ⟨rs, h1, h2⟩ := open_structs (k := 1) (fun (r : Int) cs => (0 ≤ r ∧ r < 2 ^ 64) ∧ cs = [.int .u64 r]) Tryz.underlying23 (by kernel_rfl) (by decide) (fun n cs x hx => by
    obtain ⟨r, hr, _, wr⟩ := DataW.trod_int Tryz.underlying84 hx
    exact ⟨by rw [hr]; rfl, r, wfU64 wr, hr⟩) h
  refine ⟨rs, h1, fun i r hr => ?_⟩
  obtain ⟨b, off, cs, ha, ⟨hok, rfl⟩, hc⟩ := h2 i r hr
  have c0 := hc 0 (by decide)
  rw [Nat.add_zero, Nat.mul_one] at c0
  exact ⟨hok, b, off, ha, c0⟩

def IsSet (w : World) (n : Int) (a : Option Addr) (len : Nat) (ws : List Int) : Prop := (Lit.int .i64 n).wf = true ∧ IsWords w a len ws

set_option maxRecDepth 100000 in
theorem open_set {H : Type} {enc : TypeId × Value → H} {W : World} {base b0 : Nat} {spare : Nat → Bool} {held : Bool} {r : Reach} {v : Value} {d : DataW H} {p : List MemPlace} (hv : Value.okWide Tryz.prog W r b0 25 v)
    (h : DataW.Trod enc Tryz.prog W base spare held 25 v d p) : ∃ (n : Int) (a : Option Addr) (len cap : Nat) (ws : List Int), IsSet W n a len ws ∧ v = .agg #[.int .i64 n, .slice a len cap] := by
  obtain ⟨cs, rfl, _⟩ := okWide_struct Tryz.underlying25 hv
  obtain ⟨fuel, hf⟩ := h
  obtain ⟨xs, m, _, _, hlen, hxs, hfd⟩ := DataW.trod_struct Tryz.underlying25 hf
  have hC : Tryz.prog.cellsOf 25 = 2 := by kernel_rfl
  have C64 : Tryz.prog.cellsOf 3 = 1 := by kernel_rfl
  have CS : Tryz.prog.cellsOf 23 = 1 := by kernel_rfl
  rw [hC] at hlen
  have f0 := hfd 0 _ rfl
  have f1 := hfd 1 _ rfl
  rw [List.getElem?_eq_getElem (by rw [hxs]; decide)] at f0 f1
  obtain ⟨⟨d1, p1⟩, hx1⟩ : ∃ y, y = xs[1]'(by rw [hxs]; decide) := ⟨_, rfl⟩
  rw [← hx1] at f1
  obtain ⟨n, hn, _, wn⟩ := DataW.trod_int Tryz.underlying3 f0
  obtain ⟨l⟩ := cs
  simp only [Value.cells] at hlen hn f1
  match l, hlen with
  | [c0, c1], _ =>
    simp [C64, CS] at hn f1
    have hc1 : ∃ a len cap, c1 = .slice a len cap := by
      rcases open_slice Tryz.underlying23 f1 with ⟨hcs, _⟩ | ⟨x, l, c, _, _, _, _, hcs, _⟩
      · simp at hcs; exact ⟨_, _, _, hcs⟩
      · simp at hcs; exact ⟨_, _, _, hcs⟩
    obtain ⟨a, len, cap, rfl⟩ := hc1
    obtain ⟨ws, hw⟩ := open_u64s (a := a) (len := len) (cap := cap) ⟨_, by simpa [Value.cells] using f1⟩
    exact ⟨n, a, len, cap, ws, ⟨wn, hw⟩, by rw [hn]⟩

end Go.Proofs.YtoeoehbpahodnaaGreat
