/-
  perm.Inverse; order.Of, Vars, Perm, Var, Level, Swap.
-/
import Derived.Test.YtoeoehbpahodnaaGreatPPermX
import Derived.BigRegion
namespace Go.Proofs.YtoeoehbpahodnaaGreat
set_option linter.unusedSimpArgs false
set_option linter.unusedVariables false
set_option maxHeartbeats 600000
open Go.RowKit

def InvOf (ps qs : List Int) : Prop := qs.length = ps.length ∧ ∀ (i : Nat) (x : Int), ps[i]? = some x → qs[x.toNat]? = some (i : Int)

theorem rowI_made {w : World} {blk n : Nat} (h : w.ownsRow blk 3 1 (.slice (some ⟨blk, 0, none⟩) n n) n (madeCells (Value.int .i64 0).cells (n * 1)).toList) : RowI w blk (List.replicate n 0) := by
  have e : (madeCells (Value.int .i64 0).cells (n * 1)).toList = (List.replicate n (0 : Int)).map (Value.int .i64) := by
    rw [List.map_replicate, Nat.mul_one]
    simp [madeCells, Value.cells, Nat.mod_one]
    rw [List.map_const', List.length_range]
  rw [e] at h
  exact (rowI_owns h).1

set_option maxRecDepth 100000 in
set_option maxHeartbeats 1000000 in
theorem inverse_calls (a : Option Addr) (cap : Nat) (ps : List Int) (w : World) (h : IntsAt w a ps) (hl : ps.length ≤ 1048576) :
    Calls Tryz.prog 68 #[.slice a ps.length cap] w fun e w' => Keeps w w' ∧
      if permB ps = true then ∃ qs, e = .returned (.tuple #[.slice (some ⟨w.heap.size, 0, none⟩) ps.length ps.length, .bool true]) ∧ RowI w' w.heap.size qs ∧ InvOf ps qs
      else e = .returned (.tuple #[.slice none 0 0, .bool false]) := by
  have hR := fun W (hW : Keeps w W) => permRight_calls a cap ps W (h.keeps hW) hl
  obtain ⟨N, hN⟩ : ∃ N, N = ps.length := ⟨_, rfl⟩
  cases hb : permB ps with
  | false =>
    simp only [Bool.false_eq_true, if_false]
    rw [hb, ← hN] at hR
    rw [← hN]
    have HR := Lib.hid hR
    clear hR h hl hb hN
    go_enter Tryz.func68, Tryz.ntmps68
    go_wp2_with (first | (go_at_call 137; refine (HR.out _ (by (exact kp))).mono ?_; rintro e w1 ⟨rfl, rfl⟩) | fail)
    go_ret2
    exact ⟨Keeps.refl _, rfl⟩
  | true =>
    simp only [if_true]
    obtain ⟨h16, hrng, hnd⟩ := permB_iff.1 hb
    rw [hb, ← hN] at hR
    rw [← hN] at hl h16 hrng ⊢
    have HR := Lib.hid hR
    have HN := Lib.hid hN
    have H := Lib.hid h
    have HRNG := Lib.hid hrng
    have HND := Lib.hid hnd
    obtain ⟨j0, hj, jz0, jz1, jz2⟩ := info_parts info_int
    clear hR h hb hN hrng hnd
    go_enter Tryz.func68, Tryz.ntmps68
    go_wp2_with (first
      | (go_at_call 137; refine (HR.out _ (by (exact kp))).mono ?_; rintro e w1 ⟨rfl, rfl⟩)
      | (at_make; refine wpList_make_full _ rfl _ _ 22 rfl w.heap.size 3 j0 (.int .i64 0) 1 Tryz.underlying22 hj jz0 jz1 .i64 .i64 (N : Int) (N : Int) N rfl rfl rfl rfl (by rw [jz2]; omega) (by unfold maxLen; omega) (by simp) ?_; intro w1 hown1 hg1)
      | fail)
    have HB1 := Lib.hid (rowI_made hown1)
    have hkk : Keeps w w1 := ⟨hg1.os, hg1.tape, hg1.output, hg1.size, fun i hi => hg1.block i hi (by simp)⟩
    have HKK := Lib.hid hkk
    have l1 := HB1.out.lt
    clear hown1 hg1 hkk
    go_loopg [5, 6, 15] N (fun gk s5 s6 s15 wr => ∃ (d : Nat) (qs : List Int), d + gk = N ∧ s15 = .int .i64 (d : Int) ∧ qs.length = N ∧ RowI wr w.heap.size qs ∧ (∀ i x, i < d → ps[i]? = some x → qs[x.toNat]? = some (i : Int)) ∧ Upd (fun j => j = w.heap.size) w1 wr)
    case atStart => exact ⟨0, _, by omega, rfl, by simp, HB1.out, fun i x hi => by omega, Upd.refl _ _⟩
    case round =>
      obtain ⟨d, qs, hd, rfl, hql, hB, hag, hk0⟩ := hrel
      have HB := Lib.hid hB
      have HQL := Lib.hid hql
      have HAG := Lib.hid hag
      have HK0 := Lib.hid hk0
      have hw : Keeps w wr := HKK.out.new hk0 (fun k hk => by omega)
      clear hB hql hag hk0
      by_cases hlt : d < N
      · obtain ⟨x, hx⟩ : ∃ b, ps[d]? = some b := ⟨_, List.getElem?_eq_getElem (by rw [← HN.out]; exact hlt)⟩
        obtain ⟨b, off, rfl, hc0⟩ := H.out d x hx
        have hc := hw.cell hc0
        obtain ⟨hx0, hx1⟩ := HRNG.out x (List.mem_of_getElem? hx)
        have HX := Lib.hid hx
        obtain ⟨X, rfl⟩ : ∃ X : Nat, x = (X : Int) := ⟨x.toNat, by omega⟩
        obtain ⟨y, hy⟩ : ∃ b, qs[X]? = some b := ⟨_, List.getElem?_eq_getElem (by rw [HQL.out]; omega)⟩
        have hcy := HB.out.cell hy
        have hfy := HB.out.frozen X
        clear hc0 hx hy
        go_wp2_with fail
        go_roundg (gk - 1)
        case rel =>
          refine ⟨d + 1, qs.set X (d : Int), by omega, by simp, by rw [List.length_set, HQL.out], ?_, fun i z hi hz => ?_, ?_⟩
          · exact HB.out.set X (d : Int) (by rw [HQL.out]; omega)
          · by_cases hid : i = d
            · subst hid
              rw [HX.out] at hz
              cases hz
              rw [Int.toNat_natCast, List.getElem?_set_self (by rw [HQL.out]; omega)]
            · have hne : z.toNat ≠ X := fun e => by
                have hz0 := (HRNG.out z (List.mem_of_getElem? hz)).1
                have hzX : z = (X : Int) := by omega
                rw [hzX] at hz
                obtain ⟨l1, e1⟩ := List.getElem?_eq_some_iff.1 hz
                obtain ⟨l2, e2⟩ := List.getElem?_eq_some_iff.1 HX.out
                exact hid (List.getElem_inj HND.out |>.1 (e1.trans e2.symm))
              rw [List.getElem?_set_ne (fun e => hne e.symm)]
              exact HAG.out i z (by omega) hz
          · exact HK0.out.setCell (.inl rfl) _
        case measure => omega
      · have hd2 : d = N := by omega
        have hq : InvOf ps qs := ⟨by rw [HQL.out, HN.out], fun i x hx => HAG.out i x (by have := (List.getElem?_eq_some_iff.1 hx).1; have := HN.out; omega) hx⟩
        have HQ := Lib.hid hq
        clear hd2 hq
        go_wp2_with fail
        go_ret2
        exact ⟨hw, qs, rfl, HB.out, HQ.out⟩

structure OrdRep (F : Nat → Prop) (w : World) (ob : Nat) (ps : List Int) : Prop where
  lies : ∃ va vc lg lc qs, w.heap[ob]? = some (.cells #[.slice va ps.length vc, .slice (some ⟨lg, 0, none⟩) ps.length lc] 131 (0, 0)) ∧ InvOf ps qs ∧
    (ps ≠ [] → ∃ vg, va = some ⟨vg, 0, none⟩ ∧ RowI w vg ps ∧ F vg ∧ vg ≠ lg) ∧ RowI w lg qs ∧ F lg
  own : F ob
  lt : ∀ k, F k → k < w.heap.size
  perm : permB ps = true

theorem OrdRep.keep {F G : Nat → Prop} {w W : World} {ob : Nat} {ps : List Int} (h : OrdRep F w ob ps) (hu : Upd G w W) (hd : ∀ k, F k → ¬ G k) : OrdRep F W ob ps := by
  obtain ⟨⟨va, vc, lg, lc, qs, h1, h2, h3, h4, h5⟩, a1, a2, a3⟩ := h
  refine ⟨⟨va, vc, lg, lc, qs, (hu.block ob (lt_of_heap h1) (hd _ a1)).trans h1, h2, fun hn => ?_, h4.keep hu (hd _ h5), h5⟩, a1, fun k hk => Nat.lt_of_lt_of_le (a2 k hk) hu.size, a3⟩
  obtain ⟨vg, q1, q2, q3, q4⟩ := h3 hn
  exact ⟨vg, q1, q2.keep hu (hd _ q3), q3, q4⟩

theorem OrdRep.keeps {F : Nat → Prop} {w W : World} {ob : Nat} {ps : List Int} (h : OrdRep F w ob ps) (hu : Keeps w W) : OrdRep F W ob ps := h.keep (hu.upd (fun _ => False)) (fun _ _ h => h)

set_option maxRecDepth 100000 in
theorem orderOf_calls (a : Option Addr) (cap : Nat) (ps : List Int) (w : World) (h : IntsAt w a ps) (hl : ps.length ≤ 1048576) :
    Calls Tryz.prog 13 #[.slice a ps.length cap] w fun e w' => Keeps w w' ∧
      if permB ps = true then ∃ ob F, e = .returned (.tuple #[.pointer (some ⟨ob, 0, none⟩), .int .u8 0]) ∧ OrdRep F w' ob ps ∧ (∀ k, F k → w.heap.size ≤ k)
      else e = .returned (.tuple #[.pointer none, .int .u8 1]) := by
  have hI := fun W (hW : Keeps w W) => inverse_calls a cap ps W (h.keeps hW) hl
  have hC := fun W (hW : Keeps w W) => clone_calls a cap ps W (h.keeps hW) hl
  obtain ⟨N, hN⟩ : ∃ N, N = ps.length := ⟨_, rfl⟩
  cases hb : permB ps with
  | false =>
    simp only [Bool.false_eq_true, if_false]
    simp only [hb, Bool.false_eq_true, if_false, ← hN] at hI
    rw [← hN]
    have HI := Lib.hid hI
    clear hI h hl hb hN hC
    go_enter Tryz.func13, Tryz.ntmps13
    go_wp2_with (first | (go_at_call 68; refine (HI.out _ (by (exact kp))).mono ?_; rintro e w1 ⟨hk, rfl⟩) | fail)
    go_ret2
    exact ⟨hk, rfl⟩
  | true =>
    simp only [if_true]
    simp only [hb, if_true, ← hN] at hI
    rw [← hN] at hC ⊢
    have HI := Lib.hid hI
    have HC := Lib.hid hC
    have HB := Lib.hid hb
    have HN := Lib.hid hN
    clear hI h hl hb hN hC
    go_enter Tryz.func13, Tryz.ntmps13
    go_wp2_with (first | (go_at_call 68; refine (HI.out _ (by (exact kp))).mono ?_; rintro e w1 ⟨hk1, qs, rfl, hr1, hq1⟩) | fail)
    have l1 := hr1.lt
    refine (HC.out _ hk1).mono ?_
    rintro e w2 ⟨va, vc, rfl, hr2, hk2⟩
    go_wp2_with fail
    go_ret2
    have hk3 : Keeps w2 (w2.alloc (.cells #[.slice va N vc, .slice (some ⟨w.heap.size, 0, none⟩) N N] 131)) := (Keeps.refl _).alloc _
    have l2 := hk2.size
    refine ⟨(hk1.trans hk2).trans hk3, w2.heap.size, fun k => w.heap.size ≤ k ∧ k ≤ w2.heap.size, rfl, ⟨⟨va, vc, w.heap.size, N, qs, ?_, hq1, fun hn => ?_, (hr1.keeps hk2).keeps hk3, by omega⟩, by omega, fun k hk => by simp; omega, HB.out⟩, fun k hk => hk.1⟩
    · rw [← HN.out]
      exact heap_alloc_new w2 _
    · obtain ⟨vg, e1, e2, e3⟩ := hr2 hn
      have := e3.lt
      exact ⟨vg, e1, e3.keeps hk3, by omega, by omega⟩

end Go.Proofs.YtoeoehbpahodnaaGreat

namespace Go.Proofs.YtoeoehbpahodnaaGreat
set_option linter.unusedSimpArgs false
set_option linter.unusedVariables false
set_option maxHeartbeats 600000
open Go.RowKit

theorem RowI.ne {w : World} {g ob : Nat} {ps : List Int} {cs : Array Value} {q : Nat × Nat} (h : RowI w g ps) (ho : w.heap[ob]? = some (.cells cs 131 q)) : g ≠ ob := by
  obtain ⟨cur, h1, _⟩ := h
  intro e
  subst e
  rw [h1] at ho
  have := Option.some.inj ho
  injection this with _ e2 _
  exact absurd e2 (by decide)

theorem OrdRep.cells {F : Nat → Prop} {w : World} {ob : Nat} {ps : List Int} (h : OrdRep F w ob ps) : ∃ va vc lg lc, w.cell? ⟨ob, 0, none⟩ = some (.slice va ps.length vc) ∧ w.cell? ⟨ob, 1, none⟩ = some (.slice (some ⟨lg, 0, none⟩) ps.length lc) ∧ IntsAt w va ps := by
  obtain ⟨⟨va, vc, lg, lc, qs, h1, h2, h3, h4, h5⟩, _⟩ := h
  refine ⟨va, vc, lg, lc, by rw [cell_of_row w ob 0 _ _ _ h1]; rfl, by rw [cell_of_row w ob 1 _ _ _ h1]; rfl, fun i x hx => ?_⟩
  obtain ⟨vg, q1, q2, _⟩ := h3 (fun e => by rw [e] at hx; simp at hx)
  rw [q1]
  exact q2.ints i x hx

theorem OrdRep.pos {F : Nat → Prop} {w : World} {ob : Nat} {ps : List Int} (h : OrdRep F w ob ps) : ob < w.heap.size := h.lt _ h.own

theorem OrdRep.le {F : Nat → Prop} {w : World} {ob : Nat} {ps : List Int} (h : OrdRep F w ob ps) : ps.length ≤ 16 := (permB_iff.1 h.perm).1

theorem ordVars_calls {F : Nat → Prop} {w : World} {ob : Nat} {ps : List Int} (h : OrdRep F w ob ps) :
    Calls Tryz.prog 71 #[.pointer (some ⟨ob, 0, none⟩)] w fun e w' => e = .returned (.int .i64 (ps.length : Int)) ∧ w = w' := by
  obtain ⟨va, vc, lg, lc, c0, c1, _⟩ := h.cells
  have hle := h.le
  obtain ⟨n, hn⟩ : ∃ n, n = ps.length := ⟨_, rfl⟩
  rw [← hn] at c0 c1 hle ⊢
  clear h c1 hn
  go_enter Tryz.func71, Tryz.ntmps71
  go_wp2
  go_ret
  exact ⟨rfl, rfl⟩

end Go.Proofs.YtoeoehbpahodnaaGreat

namespace Go.Proofs.YtoeoehbpahodnaaGreat
set_option linter.unusedSimpArgs false
set_option linter.unusedVariables false
set_option maxHeartbeats 600000
open Go.RowKit

def numsI (n : Nat) : List Int := (List.range n).map (fun i : Nat => (i : Int))

theorem numsI_len (n : Nat) : (numsI n).length = n := by unfold numsI; simp

theorem mem_numsI {n : Nat} {x : Int} : x ∈ numsI n ↔ 0 ≤ x ∧ x < (n : Int) := by
  unfold numsI
  rw [List.mem_map]
  constructor
  · rintro ⟨a, ha, rfl⟩
    rw [List.mem_range] at ha
    omega
  · intro h
    exact ⟨x.toNat, by rw [List.mem_range]; omega, by omega⟩

theorem nodup_numsI (n : Nat) : (numsI n).Nodup := by
  unfold numsI
  exact List.Pairwise.map _ (fun a b (h : a ≠ b) e => h (by omega)) List.nodup_range

end Go.Proofs.YtoeoehbpahodnaaGreat

namespace Go.Proofs.YtoeoehbpahodnaaGreat
set_option linter.unusedSimpArgs false
set_option linter.unusedVariables false
set_option maxHeartbeats 600000
open Go.RowKit

theorem permB_numsI {n : Nat} (h : n ≤ 16) : permB (numsI n) = true := permB_iff.2 ⟨by rw [numsI_len]; exact h, fun x hx => by rw [numsI_len]; exact mem_numsI.1 hx, nodup_numsI n⟩

set_option maxRecDepth 100000 in
theorem permSame_calls (n : Nat) (h : n ≤ 16) (w : World) :
    Calls Tryz.prog 136 #[.int .i64 (n : Int)] w fun e w' => e = .returned (.tuple #[.slice (some ⟨w.heap.size, 0, none⟩) n n, .bool true]) ∧ RowI w' w.heap.size (numsI n) ∧ Keeps w w' := by
  obtain ⟨j0, hj, jz0, jz1, jz2⟩ := info_parts info_int
  go_enter Tryz.func136, Tryz.ntmps136
  go_wp2_with (first
    | (at_make; refine wpList_make_full _ rfl _ _ 22 rfl w.heap.size 3 j0 (.int .i64 0) 1 Tryz.underlying22 hj jz0 jz1 .i64 .i64 (n : Int) (n : Int) n rfl rfl rfl rfl (by rw [jz2]; omega) (by unfold maxLen; omega) (by simp) ?_; intro w1 hown1 hg1)
    | fail)
  have HB1 := Lib.hid (rowI_made hown1)
  have hkk : Keeps w w1 := ⟨hg1.os, hg1.tape, hg1.output, hg1.size, fun i hi => hg1.block i hi (by simp)⟩
  have HKK := Lib.hid hkk
  clear hown1 hg1 hkk
  go_loopg [5, 16] n (fun gk s5 s16 wr => ∃ (d : Nat) (vs : List Int), d + gk = n ∧ s16 = .int .i64 (d : Int) ∧ vs.length = n ∧ (∀ (j : Nat) (x : Int), j < d → vs[j]? = some x → x = (j : Int)) ∧ RowI wr w.heap.size vs ∧ Upd (fun k => k = w.heap.size) w1 wr)
  case atStart => exact ⟨0, _, by omega, rfl, by simp, fun j x hj => by omega, HB1.out, Upd.refl _ _⟩
  case round =>
    obtain ⟨d, vs, hd, rfl, hvl, hvs, hR, hu⟩ := hrel
    have HR := Lib.hid hR
    have HU := Lib.hid hu
    have HVL := Lib.hid hvl
    have HVS := Lib.hid hvs
    clear hR hu hvl hvs
    by_cases hlt : d < n
    · obtain ⟨y, hy⟩ : ∃ b, vs[d]? = some b := ⟨_, List.getElem?_eq_getElem (by rw [HVL.out]; exact hlt)⟩
      have hcy := HR.out.cell hy
      have hfy := HR.out.frozen d
      clear hy
      go_wp2_with fail
      go_roundg (gk - 1)
      case rel =>
        refine ⟨d + 1, vs.set d (d : Int), by omega, by simp, by rw [List.length_set, HVL.out], fun j x hj hx => ?_, HR.out.set d _ (by rw [HVL.out]; exact hlt), HU.out.setCell (p := ⟨w.heap.size, d, none⟩) (.inl rfl) _⟩
        by_cases e : j = d
        · subst e
          rw [List.getElem?_set_self (by rw [HVL.out]; exact hlt)] at hx
          exact (Option.some.inj hx).symm
        · rw [List.getElem?_set_ne (fun h => e h.symm)] at hx
          exact HVS.out j x (by omega) hx
      case measure => omega
    · have hfin : vs = numsI n := by
        apply List.ext_getElem?
        intro j
        by_cases hj : j < n
        · obtain ⟨y, hy⟩ : ∃ b, vs[j]? = some b := ⟨_, List.getElem?_eq_getElem (by rw [HVL.out]; exact hj)⟩
          have := HVS.out j y (by omega) hy
          rw [hy, this]
          unfold numsI
          rw [List.getElem?_map, List.getElem?_range hj]
          rfl
        · rw [List.getElem?_eq_none (by rw [HVL.out]; omega), List.getElem?_eq_none (by rw [numsI_len]; omega)]
      have hkw := HKK.out.new HU.out (fun k hk => by omega)
      have hRf := HR.out
      rw [hfin] at hRf
      have HRF := Lib.hid hRf
      have HKW := Lib.hid hkw
      clear hRf hkw hfin
      go_wp2_with fail
      go_ret2
      exact ⟨rfl, HRF.out, HKW.out⟩

set_option maxRecDepth 100000 in
theorem orderNew_calls (n : Nat) (h : n ≤ 16) (w : World) :
    Calls Tryz.prog 67 #[.int .i64 (n : Int)] w fun e w' => Keeps w w' ∧ ∃ ob Fo, e = .returned (.tuple #[.pointer (some ⟨ob, 0, none⟩), .int .u8 0]) ∧ OrdRep Fo w' ob (numsI n) ∧ ∀ k, Fo k → w.heap.size ≤ k := by
  have HS := Lib.hid (fun (W : World) => permSame_calls n h W)
  have hof := fun (W W' : World) (hr : RowI W' W.heap.size (numsI n)) => by
    have := orderOf_calls (some ⟨W.heap.size, 0, none⟩) n (numsI n) W' hr.ints (by rw [numsI_len]; omega)
    simp only [numsI_len, permB_numsI h, if_true] at this
    exact this
  have HOF := Lib.hid hof
  clear hof
  go_enter Tryz.func67, Tryz.ntmps67
  go_wp2_with fail
  refine (HS.out _).mono ?_
  rintro e w1 ⟨rfl, hr, hk1⟩
  have HO1 := Lib.hid (HOF.out _ _ hr)
  clear hr
  go_wp2_with fail
  refine HO1.out.mono ?_
  rintro e w2 ⟨hk2, ob, Fo, rfl, hO, hF⟩
  have HO := Lib.hid hO
  clear hO
  go_wp2_with fail
  go_ret2
  exact ⟨hk1.trans hk2, ob, Fo, rfl, HO.out, fun k hk => by have := hF k hk; have := hk1.size; omega⟩

end Go.Proofs.YtoeoehbpahodnaaGreat

namespace Go.Proofs.YtoeoehbpahodnaaGreat
set_option linter.unusedSimpArgs false
set_option linter.unusedVariables false
set_option maxHeartbeats 600000
open Go.RowKit

theorem ints_calls (a b : Option Addr) (cap cap2 : Nat) (ps qs : List Int) (w : World) (h1 : IntsAt w a ps) (h2 : IntsAt w b qs) (hl1 : ps.length ≤ 1048576) (hl2 : qs.length ≤ 1048576) :
    Calls Tryz.prog 17 #[.slice a ps.length cap, .slice b qs.length cap2] w fun e w' => e = .returned (.bool (decide (ps = qs))) ∧ Keeps w w' := by
  by_cases hne : ps.length = qs.length
  · obtain ⟨N, hN⟩ : ∃ N, N = ps.length := ⟨_, rfl⟩
    have hM : N = qs.length := hN.trans hne
    rw [← hM, ← hN]
    rw [← hN] at hl1
    have H1 := Lib.hid h1
    have H2 := Lib.hid h2
    have HN := Lib.hid hN
    have HM := Lib.hid hM
    clear h1 h2 hN hM hne hl2
    go_enter Tryz.func17, Tryz.ntmps17
    go_wp2
    go_loopg [5] N (fun gk s5 wr => ∃ d : Nat, s5 = .int .i64 (d : Int) ∧ d + gk = N ∧ (∀ i, i < d → ps[i]? = qs[i]?) ∧ Keeps w wr)
    case atStart => exact ⟨0, rfl, by omega, fun i hi => by omega, by (exact kp)⟩
    case round =>
      obtain ⟨d, rfl, hd, hn, hk⟩ := hrel
      have HNN := Lib.hid hn
      clear hn
      by_cases hlt : d < N
      · obtain ⟨x, hx⟩ : ∃ b, ps[d]? = some b := ⟨_, List.getElem?_eq_getElem (by rw [← HN.out]; exact hlt)⟩
        obtain ⟨y, hy⟩ : ∃ b, qs[d]? = some b := ⟨_, List.getElem?_eq_getElem (by rw [← HM.out]; exact hlt)⟩
        obtain ⟨b1, o1, rfl, c0⟩ := H1.out d x hx
        obtain ⟨b2, o2, rfl, c1⟩ := H2.out d y hy
        replace c0 := hk.cell c0
        replace c1 := hk.cell c1
        have HX := Lib.hid hx
        have HY := Lib.hid hy
        have i0 : (0 : Int) ≤ (d : Int) := by omega
        have i1 : (d : Int) < (N : Int) := by omega
        clear hx hy
        by_cases hab : x = y
        · subst hab
          go_wp2_with fail
          go_quiet (fail)
          go_wp2
          go_roundg (gk - 1)
          case rel =>
            refine ⟨d + 1, by simp, by omega, fun i hi => ?_, by (exact kp)⟩
            by_cases e : i = d
            · subst e; rw [HX.out, HY.out]
            · exact HNN.out i (by omega)
          case measure => omega
        · have gab : (x != y) = true := by simp [hab]
          have hf : Hid (¬ ps = qs) := Lib.hid (fun e => by have := HX.out; rw [e, HY.out] at this; exact hab (Option.some.inj this).symm)
          go_wp2_with fail
          go_quiet (fail)
          go_wp2
          go_ret
          exact ⟨by rw [decide_eq_false hf.out]; rfl, by (exact kp)⟩
      · have hg0 : d = N := by omega
        have hh : ps = qs := by
          apply List.ext_getElem?
          intro i
          by_cases hi : i < d
          · exact HNN.out i hi
          · rw [List.getElem?_eq_none (by rw [← HN.out]; omega), List.getElem?_eq_none (by rw [← HM.out]; omega)]
        have HH := Lib.hid hh
        clear hg0 hh
        go_wp2_with fail
        go_ret
        exact ⟨by rw [decide_eq_true HH.out]; rfl, hk⟩
  · have hf : decide (ps = qs) = false := decide_eq_false (fun e => hne (by rw [e]))
    obtain ⟨N, hN⟩ : ∃ N, N = ps.length := ⟨_, rfl⟩
    obtain ⟨K, hK⟩ : ∃ K, K = qs.length := ⟨_, rfl⟩
    rw [hf]
    rw [← hN, ← hK] at hne ⊢
    have gne : ((N : Int) != (K : Int)) = true := by simp; omega
    clear h1 h2 hl1 hl2 hN hK hf hne
    go_enter Tryz.func17, Tryz.ntmps17
    go_wp2
    go_ret
    exact ⟨rfl, by (exact kp)⟩

end Go.Proofs.YtoeoehbpahodnaaGreat
