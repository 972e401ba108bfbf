/-
  perm.Inverse; order.Of, Vars, Perm, Var, Level, Swap.
-/
import Derived.Test.YtoeoehbpahodnaaPViewT
namespace Go.Proofs.Ytoeoehbpahodnaa
set_option linter.unusedSimpArgs false
set_option linter.unusedVariables false
set_option maxHeartbeats 600000
open Go.RowKit

def InvOf (ps qs : List Int) : Prop := qs.length = ps.length ∧ ∀ (i : Nat) (x : Int), ps[i]? = some x → qs[x.toNat]? = some (i : Int)

theorem rowI_made {w : World} {blk n : Nat} (h : w.ownsRow blk 3 1 (.slice (some ⟨blk, 0, none⟩) n n) n (madeCells (Value.int .i64 0).cells (n * 1)).toList) : RowI w blk (List.replicate n 0) := by
  have e : (madeCells (Value.int .i64 0).cells (n * 1)).toList = (List.replicate n (0 : Int)).map (Value.int .i64) := by
    rw [List.map_replicate, Nat.mul_one]
    simp [madeCells, Value.cells, Nat.mod_one]
    rw [List.map_const', List.length_range]
  rw [e] at h
  exact (rowI_owns h).1

set_option maxRecDepth 100000 in
set_option maxHeartbeats 1000000 in
theorem inverse_calls (a : Option Addr) (cap : Nat) (ps : List Int) (w : World) (h : IntsAt w a ps) (hl : ps.length ≤ 1048576) :
    Calls Try.prog 33 #[.slice a ps.length cap] w fun e w' => Keeps w w' ∧
      if permB ps = true then ∃ qs, e = .returned (.tuple #[.slice (some ⟨w.heap.size, 0, none⟩) ps.length ps.length, .bool true]) ∧ RowI w' w.heap.size qs ∧ InvOf ps qs
      else e = .returned (.tuple #[.slice none 0 0, .bool false]) := by
  have hR := fun W (hW : Keeps w W) => permRight_calls a cap ps W (h.keeps hW) hl
  obtain ⟨N, hN⟩ : ∃ N, N = ps.length := ⟨_, rfl⟩
  cases hb : permB ps with
  | false =>
    simp only [Bool.false_eq_true, if_false]
    rw [hb, ← hN] at hR
    rw [← hN]
    have HR := Lib.hid hR
    clear hR h hl hb hN
    go_enter Try.func33, Try.ntmps33
    go_wp2_with (first | (go_at_call 65; refine (HR.out _ (by (exact kp))).mono ?_; rintro e w1 ⟨rfl, rfl⟩) | fail)
    go_ret2
    exact ⟨Keeps.refl _, rfl⟩
  | true =>
    simp only [if_true]
    obtain ⟨h16, hrng, hnd⟩ := permB_iff.1 hb
    rw [hb, ← hN] at hR
    rw [← hN] at hl h16 hrng ⊢
    have HR := Lib.hid hR
    have HN := Lib.hid hN
    have H := Lib.hid h
    have HRNG := Lib.hid hrng
    have HND := Lib.hid hnd
    obtain ⟨j0, hj, jz0, jz1, jz2⟩ := info_parts info_int
    clear hR h hb hN hrng hnd
    go_enter Try.func33, Try.ntmps33
    go_wp2_with (first
      | (go_at_call 65; refine (HR.out _ (by (exact kp))).mono ?_; rintro e w1 ⟨rfl, rfl⟩)
      | (at_make; refine wpList_make_full _ rfl _ _ 23 rfl w.heap.size 3 j0 (.int .i64 0) 1 Try.underlying23 hj jz0 jz1 .i64 .i64 (N : Int) (N : Int) N rfl rfl rfl rfl (by rw [jz2]; omega) (by unfold maxLen; omega) (by simp) ?_; intro w1 hown1 hg1)
      | fail)
    have HB1 := Lib.hid (rowI_made hown1)
    have hkk : Keeps w w1 := ⟨hg1.os, hg1.tape, hg1.output, hg1.size, fun i hi => hg1.block i hi (by simp)⟩
    have HKK := Lib.hid hkk
    have l1 := HB1.out.lt
    clear hown1 hg1 hkk
    go_loopg [5, 6, 15] N (fun gk s5 s6 s15 wr => ∃ (d : Nat) (qs : List Int), d + gk = N ∧ s15 = .int .i64 (d : Int) ∧ qs.length = N ∧ RowI wr w.heap.size qs ∧ (∀ i x, i < d → ps[i]? = some x → qs[x.toNat]? = some (i : Int)) ∧ Upd (fun j => j = w.heap.size) w1 wr)
    case atStart => exact ⟨0, _, by omega, rfl, by simp, HB1.out, fun i x hi => by omega, Upd.refl _ _⟩
    case round =>
      obtain ⟨d, qs, hd, rfl, hql, hB, hag, hk0⟩ := hrel
      have HB := Lib.hid hB
      have HQL := Lib.hid hql
      have HAG := Lib.hid hag
      have HK0 := Lib.hid hk0
      have hw : Keeps w wr := HKK.out.new hk0 (fun k hk => by omega)
      clear hB hql hag hk0
      by_cases hlt : d < N
      · obtain ⟨x, hx⟩ : ∃ b, ps[d]? = some b := ⟨_, List.getElem?_eq_getElem (by rw [← HN.out]; exact hlt)⟩
        obtain ⟨b, off, rfl, hc0⟩ := H.out d x hx
        have hc := hw.cell hc0
        obtain ⟨hx0, hx1⟩ := HRNG.out x (List.mem_of_getElem? hx)
        have HX := Lib.hid hx
        obtain ⟨X, rfl⟩ : ∃ X : Nat, x = (X : Int) := ⟨x.toNat, by omega⟩
        obtain ⟨y, hy⟩ : ∃ b, qs[X]? = some b := ⟨_, List.getElem?_eq_getElem (by rw [HQL.out]; omega)⟩
        have hcy := HB.out.cell hy
        have hfy := HB.out.frozen X
        clear hc0 hx hy
        go_wp2_with fail
        go_roundg (gk - 1)
        case rel =>
          refine ⟨d + 1, qs.set X (d : Int), by omega, by simp, by rw [List.length_set, HQL.out], ?_, fun i z hi hz => ?_, ?_⟩
          · exact HB.out.set X (d : Int) (by rw [HQL.out]; omega)
          · by_cases hid : i = d
            · subst hid
              rw [HX.out] at hz
              cases hz
              rw [Int.toNat_natCast, List.getElem?_set_self (by rw [HQL.out]; omega)]
            · have hne : z.toNat ≠ X := fun e => by
                have hz0 := (HRNG.out z (List.mem_of_getElem? hz)).1
                have hzX : z = (X : Int) := by omega
                rw [hzX] at hz
                obtain ⟨l1, e1⟩ := List.getElem?_eq_some_iff.1 hz
                obtain ⟨l2, e2⟩ := List.getElem?_eq_some_iff.1 HX.out
                exact hid (List.getElem_inj HND.out |>.1 (e1.trans e2.symm))
              rw [List.getElem?_set_ne (fun e => hne e.symm)]
              exact HAG.out i z (by omega) hz
          · exact HK0.out.setCell (.inl rfl) _
        case measure => omega
      · have hd2 : d = N := by omega
        have hq : InvOf ps qs := ⟨by rw [HQL.out, HN.out], fun i x hx => HAG.out i x (by have := (List.getElem?_eq_some_iff.1 hx).1; have := HN.out; omega) hx⟩
        have HQ := Lib.hid hq
        clear hd2 hq
        go_wp2_with fail
        go_ret2
        exact ⟨hw, qs, rfl, HB.out, HQ.out⟩

structure OrdRep (F : Nat → Prop) (w : World) (ob : Nat) (ps : List Int) : Prop where
  lies : ∃ va vc lg lc qs, w.heap[ob]? = some (.cells #[.slice va ps.length vc, .slice (some ⟨lg, 0, none⟩) ps.length lc] 92 (0, 0)) ∧ InvOf ps qs ∧
    (ps ≠ [] → ∃ vg, va = some ⟨vg, 0, none⟩ ∧ RowI w vg ps ∧ F vg ∧ vg ≠ lg) ∧ RowI w lg qs ∧ F lg
  own : F ob
  lt : ∀ k, F k → k < w.heap.size
  perm : permB ps = true

theorem OrdRep.keep {F G : Nat → Prop} {w W : World} {ob : Nat} {ps : List Int} (h : OrdRep F w ob ps) (hu : Upd G w W) (hd : ∀ k, F k → ¬ G k) : OrdRep F W ob ps := by
  obtain ⟨⟨va, vc, lg, lc, qs, h1, h2, h3, h4, h5⟩, a1, a2, a3⟩ := h
  refine ⟨⟨va, vc, lg, lc, qs, (hu.block ob (lt_of_heap h1) (hd _ a1)).trans h1, h2, fun hn => ?_, h4.keep hu (hd _ h5), h5⟩, a1, fun k hk => Nat.lt_of_lt_of_le (a2 k hk) hu.size, a3⟩
  obtain ⟨vg, q1, q2, q3, q4⟩ := h3 hn
  exact ⟨vg, q1, q2.keep hu (hd _ q3), q3, q4⟩

theorem OrdRep.keeps {F : Nat → Prop} {w W : World} {ob : Nat} {ps : List Int} (h : OrdRep F w ob ps) (hu : Keeps w W) : OrdRep F W ob ps := h.keep (hu.upd (fun _ => False)) (fun _ _ h => h)

set_option maxRecDepth 100000 in
theorem orderOf_calls (a : Option Addr) (cap : Nat) (ps : List Int) (w : World) (h : IntsAt w a ps) (hl : ps.length ≤ 1048576) :
    Calls Try.prog 8 #[.slice a ps.length cap] w fun e w' => Keeps w w' ∧
      if permB ps = true then ∃ ob F, e = .returned (.tuple #[.pointer (some ⟨ob, 0, none⟩), .int .u8 0]) ∧ OrdRep F w' ob ps ∧ (∀ k, F k → w.heap.size ≤ k)
      else e = .returned (.tuple #[.pointer none, .int .u8 1]) := by
  have hI := fun W (hW : Keeps w W) => inverse_calls a cap ps W (h.keeps hW) hl
  have hC := fun W (hW : Keeps w W) => clone_calls a cap ps W (h.keeps hW) hl
  obtain ⟨N, hN⟩ : ∃ N, N = ps.length := ⟨_, rfl⟩
  cases hb : permB ps with
  | false =>
    simp only [Bool.false_eq_true, if_false]
    simp only [hb, Bool.false_eq_true, if_false, ← hN] at hI
    rw [← hN]
    have HI := Lib.hid hI
    clear hI h hl hb hN hC
    go_enter Try.func8, Try.ntmps8
    go_wp2_with (first | (go_at_call 33; refine (HI.out _ (by (exact kp))).mono ?_; rintro e w1 ⟨hk, rfl⟩) | fail)
    go_ret2
    exact ⟨hk, rfl⟩
  | true =>
    simp only [if_true]
    simp only [hb, if_true, ← hN] at hI
    rw [← hN] at hC ⊢
    have HI := Lib.hid hI
    have HC := Lib.hid hC
    have HB := Lib.hid hb
    have HN := Lib.hid hN
    clear hI h hl hb hN hC
    go_enter Try.func8, Try.ntmps8
    go_wp2_with (first | (go_at_call 33; refine (HI.out _ (by (exact kp))).mono ?_; rintro e w1 ⟨hk1, qs, rfl, hr1, hq1⟩) | fail)
    have l1 := hr1.lt
    refine (HC.out _ hk1).mono ?_
    rintro e w2 ⟨va, vc, rfl, hr2, hk2⟩
    go_wp2_with fail
    go_ret2
    have hk3 : Keeps w2 (w2.alloc (.cells #[.slice va N vc, .slice (some ⟨w.heap.size, 0, none⟩) N N] 92)) := (Keeps.refl _).alloc _
    have l2 := hk2.size
    refine ⟨(hk1.trans hk2).trans hk3, w2.heap.size, fun k => w.heap.size ≤ k ∧ k ≤ w2.heap.size, rfl, ⟨⟨va, vc, w.heap.size, N, qs, ?_, hq1, fun hn => ?_, (hr1.keeps hk2).keeps hk3, by omega⟩, by omega, fun k hk => by simp; omega, HB.out⟩, fun k hk => hk.1⟩
    · rw [← HN.out]
      exact heap_alloc_new w2 _
    · obtain ⟨vg, e1, e2, e3⟩ := hr2 hn
      have := e3.lt
      exact ⟨vg, e1, e3.keeps hk3, by omega, by omega⟩

end Go.Proofs.Ytoeoehbpahodnaa

namespace Go.Proofs.Ytoeoehbpahodnaa
set_option linter.unusedSimpArgs false
set_option linter.unusedVariables false
set_option maxHeartbeats 600000
open Go.RowKit

theorem RowI.ne {w : World} {g ob : Nat} {ps : List Int} {cs : Array Value} {q : Nat × Nat} (h : RowI w g ps) (ho : w.heap[ob]? = some (.cells cs 92 q)) : g ≠ ob := by
  obtain ⟨cur, h1, _⟩ := h
  intro e
  subst e
  rw [h1] at ho
  have := Option.some.inj ho
  injection this with _ e2 _
  exact absurd e2 (by decide)

theorem OrdRep.cells {F : Nat → Prop} {w : World} {ob : Nat} {ps : List Int} (h : OrdRep F w ob ps) : ∃ va vc lg lc, w.cell? ⟨ob, 0, none⟩ = some (.slice va ps.length vc) ∧ w.cell? ⟨ob, 1, none⟩ = some (.slice (some ⟨lg, 0, none⟩) ps.length lc) ∧ IntsAt w va ps := by
  obtain ⟨⟨va, vc, lg, lc, qs, h1, h2, h3, h4, h5⟩, _⟩ := h
  refine ⟨va, vc, lg, lc, by rw [cell_of_row w ob 0 _ _ _ h1]; rfl, by rw [cell_of_row w ob 1 _ _ _ h1]; rfl, fun i x hx => ?_⟩
  obtain ⟨vg, q1, q2, _⟩ := h3 (fun e => by rw [e] at hx; simp at hx)
  rw [q1]
  exact q2.ints i x hx

theorem OrdRep.pos {F : Nat → Prop} {w : World} {ob : Nat} {ps : List Int} (h : OrdRep F w ob ps) : ob < w.heap.size := h.lt _ h.own

theorem OrdRep.le {F : Nat → Prop} {w : World} {ob : Nat} {ps : List Int} (h : OrdRep F w ob ps) : ps.length ≤ 16 := (permB_iff.1 h.perm).1

theorem ordVars_calls {F : Nat → Prop} {w : World} {ob : Nat} {ps : List Int} (h : OrdRep F w ob ps) :
    Calls Try.prog 66 #[.pointer (some ⟨ob, 0, none⟩)] w fun e w' => e = .returned (.int .i64 (ps.length : Int)) ∧ w = w' := by
  obtain ⟨va, vc, lg, lc, c0, c1, _⟩ := h.cells
  have hle := h.le
  obtain ⟨n, hn⟩ : ∃ n, n = ps.length := ⟨_, rfl⟩
  rw [← hn] at c0 c1 hle ⊢
  clear h c1 hn
  go_enter Try.func66, Try.ntmps66
  go_wp2
  go_ret
  exact ⟨rfl, rfl⟩

theorem ordPerm_calls {F : Nat → Prop} {w : World} {ob : Nat} {ps : List Int} (h : OrdRep F w ob ps) :
    Calls Try.prog 17 #[.pointer (some ⟨ob, 0, none⟩)] w fun e w' => ∃ a cap, e = .returned (.slice a ps.length cap) ∧ RowV w.heap.size w' a ps ∧ Keeps w w' := by
  obtain ⟨va, vc, lg, lc, c0, c1, hi⟩ := h.cells
  have hle := h.le
  have hC := fun W (hW : Keeps w W) => clone_calls va vc ps W (hi.keeps hW) (by omega)
  obtain ⟨n, hn⟩ : ∃ n, n = ps.length := ⟨_, rfl⟩
  rw [← hn] at c0 c1 hC ⊢
  have HC := Lib.hid hC
  clear h c1 hi hC hle hn
  go_enter Try.func17, Try.ntmps17
  go_wp2_with (first | (go_at_call 34; refine (HC.out _ (by (exact kp))).mono ?_; rintro e w1 ⟨a, cap, rfl, hr, hk⟩) | fail)
  go_ret
  exact ⟨a, cap, rfl, hr, hk⟩

def stepL (ps : List Int) (i : Nat) : List Int := (ps.set i (ps.getD (i + 1) 0)).set (i + 1) (ps.getD i 0)

theorem stepL_len (ps : List Int) (i : Nat) : (stepL ps i).length = ps.length := by unfold stepL; simp

theorem stepL_get {ps : List Int} {i : Nat} (h : i + 1 < ps.length) (j : Nat) : (stepL ps i)[j]? = if j = i then ps[i + 1]? else if j = i + 1 then ps[i]? else ps[j]? := by
  unfold stepL
  rw [List.getElem?_set, List.getElem?_set]
  have e1 : ps[i + 1]? = some (ps.getD (i + 1) 0) := by simp [List.getD, h]
  have e2 : ps[i]? = some (ps.getD i 0) := by simp [List.getD, show i < ps.length by omega]
  by_cases hj : j = i
  · subst hj
    rw [if_neg (by omega), if_pos rfl, if_pos (by omega), if_pos rfl, e1]
  · by_cases hj2 : j = i + 1
    · subst hj2
      rw [if_pos rfl, if_pos (by simpa using h), if_neg hj, if_pos rfl, e2]
    · rw [if_neg (by omega), if_neg (by omega), if_neg hj, if_neg hj2]

theorem stepL_mem {ps : List Int} {i : Nat} (h : i + 1 < ps.length) (x : Int) : x ∈ stepL ps i ↔ x ∈ ps := by
  rw [List.mem_iff_getElem?, List.mem_iff_getElem?]
  constructor
  · rintro ⟨j, hj⟩
    rw [stepL_get h] at hj
    split at hj
    · exact ⟨_, hj⟩
    · split at hj
      · exact ⟨_, hj⟩
      · exact ⟨_, hj⟩
  · rintro ⟨j, hj⟩
    by_cases h1 : j = i
    · refine ⟨i + 1, ?_⟩
      rw [stepL_get h, if_neg (by omega), if_pos rfl, ← h1]
      exact hj
    · by_cases h2 : j = i + 1
      · refine ⟨i, ?_⟩
        rw [stepL_get h, if_pos rfl, ← h2]
        exact hj
      · refine ⟨j, ?_⟩
        rw [stepL_get h, if_neg h1, if_neg h2]
        exact hj

theorem nodup_get {ps : List Int} (h : ps.Nodup) {i j : Nat} {x : Int} (hi : ps[i]? = some x) (hj : ps[j]? = some x) : i = j := by
  obtain ⟨l1, e1⟩ := List.getElem?_eq_some_iff.1 hi
  obtain ⟨l2, e2⟩ := List.getElem?_eq_some_iff.1 hj
  exact (List.getElem_inj h).1 (e1.trans e2.symm)

theorem stepL_perm {ps : List Int} {i : Nat} (h : i + 1 < ps.length) (hp : permB ps = true) : permB (stepL ps i) = true := by
  obtain ⟨h1, h2, h3⟩ := permB_iff.1 hp
  refine permB_iff.2 ⟨by rw [stepL_len]; exact h1, fun x hx => by rw [stepL_len]; exact h2 x ((stepL_mem h x).1 hx), ?_⟩
  refine List.pairwise_iff_getElem.2 fun a b h4 h5 hlt e => ?_
  have ha : (stepL ps i)[a]? = some (stepL ps i)[a] := List.getElem?_eq_getElem h4
  have hb : (stepL ps i)[b]? = some (stepL ps i)[a] := by rw [e]; exact List.getElem?_eq_getElem h5
  rw [stepL_get h] at ha hb
  have key : ∀ {p q : Nat}, ps[p]? = some (stepL ps i)[a] → ps[q]? = some (stepL ps i)[a] → p = q := fun hp hq => nodup_get h3 hp hq
  split at ha
  · split at hb
    · omega
    · split at hb
      · have := key ha hb; omega
      · have := key ha hb; omega
  · split at ha
    · split at hb
      · have := key ha hb; omega
      · split at hb
        · omega
        · have := key ha hb; omega
    · split at hb
      · have := key ha hb; omega
      · split at hb
        · have := key ha hb; omega
        · have := key ha hb; omega

theorem stepL_inv {ps qs : List Int} {i : Nat} {a b : Int} (h : i + 1 < ps.length) (hp : permB ps = true) (hq : InvOf ps qs) (ha : ps[i]? = some a) (hb : ps[i + 1]? = some b) :
    InvOf (stepL ps i) ((qs.set a.toNat ((i : Int) + 1)).set b.toNat (i : Int)) := by
  obtain ⟨h1, h2, h3⟩ := permB_iff.1 hp
  obtain ⟨q1, q2⟩ := hq
  have ra := h2 a (List.mem_of_getElem? ha)
  have rb := h2 b (List.mem_of_getElem? hb)
  have hne : a ≠ b := fun e => by subst e; have := nodup_get h3 ha hb; omega
  refine ⟨by rw [List.length_set, List.length_set, stepL_len, q1], fun j x hx => ?_⟩
  rw [stepL_get h] at hx
  rw [List.getElem?_set, List.getElem?_set]
  split at hx
  · rename_i hj
    rw [hb] at hx
    cases hx
    rw [if_pos rfl, if_pos (by rw [List.length_set, q1]; omega), hj]
  · rename_i hj
    split at hx
    · rename_i hj2
      rw [ha] at hx
      cases hx
      rw [if_neg (by omega), if_pos rfl, if_pos (by rw [q1]; omega), hj2]
      push_cast
      rfl
    · rename_i hj2
      have rx := h2 x (List.mem_of_getElem? hx)
      have n1 : x ≠ a := fun e => by subst e; exact hj (nodup_get h3 hx ha)
      have n2 : x ≠ b := fun e => by subst e; exact hj2 (nodup_get h3 hx hb)
      rw [if_neg (by omega), if_neg (by omega)]
      exact q2 j x hx

set_option maxRecDepth 100000 in
set_option maxHeartbeats 2000000 in
theorem ordSwap_calls {F : Nat → Prop} {w : World} {ob : Nat} {ps : List Int} (h : OrdRep F w ob ps) (lv : Nat) (hlv : lv + 1 < ps.length) :
    Calls Try.prog 69 #[.pointer (some ⟨ob, 0, none⟩), .int .i64 (lv : Int)] w fun e w' => e = .returned (.int .u8 0) ∧ Upd F w w' ∧ OrdRep F w' ob (stepL ps lv) := by
  have H := Lib.hid h
  have hle := h.le
  obtain ⟨⟨va, vc, lg, lc, qs, h1, h2, h3, h4, h5⟩, h6, h7, h8⟩ := h
  obtain ⟨vg, rfl, v1, v2, v3⟩ := h3 (fun e => by rw [e] at hlv; simp at hlv)
  obtain ⟨p1, p2, p3⟩ := permB_iff.1 h8
  obtain ⟨a, ha⟩ : ∃ b, ps[lv]? = some b := ⟨_, List.getElem?_eq_getElem (by omega)⟩
  obtain ⟨b, hb⟩ : ∃ b, ps[lv + 1]? = some b := ⟨_, List.getElem?_eq_getElem hlv⟩
  have ra := p2 a (List.mem_of_getElem? ha)
  have rb := p2 b (List.mem_of_getElem? hb)
  have hne : a ≠ b := fun e => by subst e; have := nodup_get p3 ha hb; omega
  have n1 := v1.ne h1
  have n2 := h4.ne h1
  have c0 : w.cell? ⟨ob, 0, none⟩ = some (.slice (some ⟨vg, 0, none⟩) ps.length vc) := by rw [cell_of_row w ob 0 _ _ _ h1]; rfl
  have c1 : w.cell? ⟨ob, 1, none⟩ = some (.slice (some ⟨lg, 0, none⟩) ps.length lc) := by rw [cell_of_row w ob 1 _ _ _ h1]; rfl
  have ca := v1.cell ha
  have cb := v1.cell hb
  have fa := v1.frozen lv
  have fb := v1.frozen (lv + 1)
  obtain ⟨A, rfl⟩ : ∃ A : Nat, a = (A : Int) := ⟨a.toNat, by omega⟩
  obtain ⟨B, rfl⟩ : ∃ B : Nat, b = (B : Int) := ⟨b.toNat, by omega⟩
  obtain ⟨qa, hqa⟩ : ∃ b, qs[A]? = some b := ⟨_, List.getElem?_eq_getElem (by rw [h2.1]; omega)⟩
  obtain ⟨qb, hqb⟩ : ∃ b, qs[B]? = some b := ⟨_, List.getElem?_eq_getElem (by rw [h2.1]; omega)⟩
  have da := h4.cell hqa
  have db := h4.cell hqb
  have ga := h4.frozen A
  have gb := h4.frozen B
  have hAB : A ≠ B := by omega
  have hfin : ∀ d W', W' = (((((w.drewN d).setCell ⟨vg, lv, none⟩ (.int .i64 (B : Int))).setCell ⟨vg, lv + 1, none⟩ (.int .i64 (A : Int))).setCell ⟨lg, A, none⟩ (.int .i64 ((lv : Int) + 1))).setCell ⟨lg, B, none⟩ (.int .i64 (lv : Int))).drew → Upd F w W' ∧ OrdRep F W' ob (stepL ps lv) := by
    rintro d W' rfl
    have kd : Keeps w (w.drewN d) := (Keeps.refl w).drewN d
    obtain ⟨w0, hw0⟩ : ∃ w0, w0 = w.drewN d := ⟨_, rfl⟩
    rw [← hw0] at kd ⊢
    replace v1 := v1.keeps kd
    replace h4 := h4.keeps kd
    replace h1 := kd.heap h1
    have u1 : Upd (fun k => k = vg) w0 ((w0.setCell ⟨vg, lv, none⟩ (.int .i64 (B : Int))).setCell ⟨vg, lv + 1, none⟩ (.int .i64 (A : Int))) := Upd.setCell (F := fun k => k = vg) (p := ⟨vg, lv + 1, none⟩) (Upd.setCell (F := fun k => k = vg) (p := ⟨vg, lv, none⟩) (Upd.refl _ _) (.inl rfl) _) (.inl rfl) _
    obtain ⟨w2, hw2⟩ : ∃ w2, w2 = (w0.setCell ⟨vg, lv, none⟩ (.int .i64 (B : Int))).setCell ⟨vg, lv + 1, none⟩ (.int .i64 (A : Int)) := ⟨_, rfl⟩
    have r1 : RowI w2 vg (stepL ps lv) := by
      rw [hw2]
      unfold stepL
      have e1 : ps.getD (lv + 1) 0 = (B : Int) := by simp [List.getD, hb]
      have e2 : ps.getD lv 0 = (A : Int) := by simp [List.getD, ha]
      rw [e1, e2]
      exact (v1.set lv (B : Int) (by omega)).set (lv + 1) (A : Int) (by simpa using hlv)
    rw [← hw2] at u1 ⊢
    have r2 : RowI ((w2.setCell ⟨lg, A, none⟩ (.int .i64 ((lv : Int) + 1))).setCell ⟨lg, B, none⟩ (.int .i64 (lv : Int))) lg ((qs.set A ((lv : Int) + 1)).set B (lv : Int)) :=
      ((h4.keep u1 (fun e => v3 e.symm)).set A _ (by rw [h2.1]; omega)).set B _ (by rw [List.length_set, h2.1]; omega)
    have u2 : Upd (fun k => k = lg) w2 ((w2.setCell ⟨lg, A, none⟩ (.int .i64 ((lv : Int) + 1))).setCell ⟨lg, B, none⟩ (.int .i64 (lv : Int))) := Upd.setCell (F := fun k => k = lg) (p := ⟨lg, B, none⟩) (Upd.setCell (F := fun k => k = lg) (p := ⟨lg, A, none⟩) (Upd.refl _ _) (.inl rfl) _) (.inl rfl) _
    have u3 := (kd.upd F).trans' ((u1.mono (G := F) (fun k _ e => by subst e; exact v2)).trans' (u2.mono (G := F) (fun k _ e => by subst e; exact h5)))
    have hO : OrdRep F ((w2.setCell ⟨lg, A, none⟩ (.int .i64 ((lv : Int) + 1))).setCell ⟨lg, B, none⟩ (.int .i64 (lv : Int))) ob (stepL ps lv) := by
      refine ⟨⟨some ⟨vg, 0, none⟩, vc, lg, lc, _, ?_, stepL_inv hlv h8 h2 ha hb, fun _ => ⟨vg, rfl, r1.keep u2 v3, v2, v3⟩, r2, h5⟩, h6, fun k hk => by have := h7 k hk; have := u3.size; omega, stepL_perm hlv h8⟩
      rw [stepL_len]
      have q1 := u1.block ob (lt_of_heap h1) (fun e => n1 e.symm)
      have q2 := u2.block ob (by have := u1.size; have := lt_of_heap h1; omega) (fun e => n2 e.symm)
      rw [q2, q1]
      exact h1
    exact ⟨u3.drew, hO.keeps (Keeps.refl _).drew⟩
  have HFIN := Lib.hid hfin
  obtain ⟨n, hn⟩ : ∃ n, n = ps.length := ⟨_, rfl⟩
  rw [← hn] at c0 c1 hle hlv ra rb
  have hA : A < n := by omega
  have hB : B < n := by omega
  have nvl : vg ≠ lg := v3
  have nlv : lg ≠ vg := fun e => v3 e.symm
  have n1' : ob ≠ vg := fun e => n1 e.symm
  have n2' : ob ≠ lg := fun e => n2 e.symm
  clear H h1 h2 h3 h4 h5 h6 h7 h8 v1 v2 v3 p1 p2 p3 ha hb ra rb hne hqa hqb hfin hn
  go_enter Try.func69, Try.ntmps69
  go_wp2_with fail
  go_quiet (fail)
  go_wp2_with fail
  go_region
  go_wp2_with fail
  go_region
  go_wp2_with fail
  go_ret
  exact ⟨rfl, HFIN.out _ _ rfl⟩

end Go.Proofs.Ytoeoehbpahodnaa

namespace Go.Proofs.Ytoeoehbpahodnaa
set_option linter.unusedSimpArgs false
set_option linter.unusedVariables false
set_option maxHeartbeats 600000
open Go.RowKit

theorem perm_of_sub : ∀ (R ps : List Int), R.Nodup → (∀ x ∈ R, x ∈ ps) → ps.length ≤ R.length → ps.Perm R := by
  intro R
  induction R with
  | nil =>
    intro ps _ _ hl
    rw [List.length_nil, Nat.le_zero, List.length_eq_zero_iff] at hl
    rw [hl]
  | cons x R ih =>
    intro ps hn hs hl
    rw [List.nodup_cons] at hn
    have hx := hs x (by simp)
    have hp := List.perm_cons_erase hx
    refine hp.trans (List.Perm.cons x (ih _ hn.2 (fun y hy => ?_) ?_))
    · have hyx : y ≠ x := fun e => hn.1 (e ▸ hy)
      exact (List.mem_erase_of_ne hyx).2 (hs y (by simp [hy]))
    · have := hp.length_eq
      simp at this hl
      omega

def numsI (n : Nat) : List Int := (List.range n).map (fun i : Nat => (i : Int))

theorem numsI_len (n : Nat) : (numsI n).length = n := by unfold numsI; simp

theorem mem_numsI {n : Nat} {x : Int} : x ∈ numsI n ↔ 0 ≤ x ∧ x < (n : Int) := by
  unfold numsI
  rw [List.mem_map]
  constructor
  · rintro ⟨a, ha, rfl⟩
    rw [List.mem_range] at ha
    omega
  · intro h
    exact ⟨x.toNat, by rw [List.mem_range]; omega, by omega⟩

theorem nodup_numsI (n : Nat) : (numsI n).Nodup := by
  unfold numsI
  exact List.Pairwise.map _ (fun a b (h : a ≠ b) e => h (by omega)) List.nodup_range

theorem permB_perm {ps : List Int} : permB ps = true ↔ (ps.length ≤ 16 ∧ ps.Perm (numsI ps.length)) := by
  rw [permB_iff]
  constructor
  · rintro ⟨h1, h2, h3⟩
    exact ⟨h1, (perm_of_sub ps (numsI ps.length) h3 (fun x hx => mem_numsI.2 (h2 x hx)) (by rw [numsI_len]; omega)).symm⟩
  · rintro ⟨h1, h2⟩
    exact ⟨h1, fun x hx => mem_numsI.1 (h2.mem_iff.1 hx), h2.nodup_iff.2 (nodup_numsI _)⟩

theorem permB_count {ps : List Int} (h16 : ps.length ≤ 16) : permB ps = true ↔ ∀ i : Nat, i < ps.length → ps.count (i : Int) = 1 := by
  rw [permB_perm]
  constructor
  · rintro ⟨_, h⟩ i hi
    rw [h.count_eq, (nodup_numsI _).count, if_pos (mem_numsI.2 (by omega))]
  · intro h
    refine ⟨h16, perm_of_sub _ _ (nodup_numsI _) (fun x hx => ?_) (by rw [numsI_len]; omega)⟩
    obtain ⟨h0, h1⟩ := mem_numsI.1 hx
    have := h x.toNat (by omega)
    rw [show ((x.toNat : Nat) : Int) = x by omega] at this
    exact List.count_pos_iff.1 (by omega)

set_option maxRecDepth 100000 in
theorem refRight_calls (a : Option Addr) (cap : Nat) (ps : List Int) (w : World) (h : IntsAt w a ps) (hl : ps.length ≤ 16) :
    Calls Try.prog 14 #[.slice a ps.length cap] w fun e w' => e = .returned (.bool (permB ps)) ∧ w = w' := by
  have hcnt := permB_count hl
  obtain ⟨N, hN⟩ : ∃ N, N = ps.length := ⟨_, rfl⟩
  rw [← hN] at hl hcnt ⊢
  have H := Lib.hid h
  have HN := Lib.hid hN
  have HC := Lib.hid hcnt
  clear h hN hcnt
  go_enter Try.func14, Try.ntmps14
  go_wp2
  go_loopg [3, 4, 5] N (fun gk s3 s4 s5 wr => ∃ (d : Nat), s3 = .int .i64 (d : Int) ∧ d + gk = N ∧ (∀ i : Nat, i < d → ps.count (i : Int) = 1) ∧ w = wr)
  case atStart => exact ⟨0, rfl, by omega, fun i hi => by omega, rfl⟩
  case round =>
    obtain ⟨d, rfl, hd, hall, rfl⟩ := hrel
    have HALL := Lib.hid hall
    obtain ⟨g0, hg0⟩ : ∃ g, g = gk := ⟨_, rfl⟩
    have HG0 := Lib.hid hg0
    clear hall hg0
    by_cases hlt : d < N
    · go_wp2_with fail
      go_loopg [4, 5] N (fun gk s4 s5 wi => ∃ (j c : Nat), s5 = .int .i64 (j : Int) ∧ s4 = .int .i64 (c : Int) ∧ j + gk = N ∧ c = (ps.take j).count (d : Int) ∧ c ≤ j ∧ w = wi)
      case atStart => exact ⟨0, 0, rfl, rfl, by omega, by simp, by omega, rfl⟩
      case round =>
        obtain ⟨j, c, rfl, rfl, hj, hcc, hcj, rfl⟩ := hrel
        have HCC := Lib.hid hcc
        clear hcc
        by_cases hjl : j < N
        · obtain ⟨x, hx⟩ : ∃ b, ps[j]? = some b := ⟨_, List.getElem?_eq_getElem (by rw [← HN.out]; exact hjl)⟩
          obtain ⟨b, off, rfl, hc⟩ := H.out j x hx
          have ht := take_snoc hx
          have HT := Lib.hid ht
          clear hx ht
          by_cases hxd : x = (d : Int)
          · subst hxd
            go_wp2_with fail
            go_roundg (gk - 1)
            case rel => exact ⟨j + 1, c + 1, by simp, by simp, by omega, by rw [HT.out, List.count_append, HCC.out]; simp, by omega, rfl⟩
            case measure => omega
          · go_wp2_with fail
            go_roundg (gk - 1)
            case rel => exact ⟨j + 1, c, by simp, rfl, by omega, by rw [HT.out, List.count_append, HCC.out]; simp [hxd], by omega, rfl⟩
            case measure => omega
        · have hcp : c = ps.count (d : Int) := by
            rw [HCC.out, List.take_of_length_le (by rw [← HN.out]; omega)]
          have HCP := Lib.hid hcp
          clear hcp
          by_cases h1 : c = 1
          · subst h1
            have hall : ∀ i : Nat, i < d + 1 → ps.count (i : Int) = 1 := fun i hi => by
              by_cases e : i = d
              · subst e; exact HCP.out.symm
              · exact HALL.out i (by omega)
            have HALL2 := Lib.hid hall
            clear hall
            go_wp2_with fail
            go_roundg (g0 - 1)
            case rel => exact ⟨d + 1, by simp, by have := HG0.out; omega, HALL2.out, rfl⟩
            case measure => have := HG0.out; omega
          · have hf : permB ps = false := by
              cases hb : permB ps with
              | false => rfl
              | true => have := HC.out.1 hb d hlt; have := HCP.out; omega
            have HF := Lib.hid hf
            have g1 : ((c : Int) != 1) = true := by simp; omega
            clear hf
            go_wp2_with fail
            go_ret
            exact ⟨by rw [HF.out]; rfl, rfl⟩
    · have ht : permB ps = true := HC.out.2 (fun i hi => HALL.out i (by omega))
      have HT := Lib.hid ht
      clear ht
      go_wp2_with fail
      go_ret
      exact ⟨by rw [HT.out]; simp; omega, rfl⟩

set_option maxRecDepth 100000 in
theorem refSame_calls (a b : Option Addr) (cap cap2 : Nat) (ps qs : List Int) (w : World) (h1 : IntsAt w a ps) (h2 : IntsAt w b qs) (hl1 : ps.length ≤ 1048576) (hl2 : qs.length ≤ 1048576) :
    Calls Try.prog 16 #[.slice a ps.length cap, .slice b qs.length cap2] w fun e w' => e = .returned (.bool (decide (ps = qs))) ∧ Keeps w w' := by
  by_cases hne : ps.length = qs.length
  · obtain ⟨N, hN⟩ : ∃ N, N = ps.length := ⟨_, rfl⟩
    have hM : N = qs.length := hN.trans hne
    rw [← hM, ← hN]
    rw [← hN] at hl1
    have H1 := Lib.hid h1
    have H2 := Lib.hid h2
    have HN := Lib.hid hN
    have HM := Lib.hid hM
    clear h1 h2 hN hM hne hl2
    go_enter Try.func16, Try.ntmps16
    go_wp2
    go_loopg [5] N (fun gk s5 wr => ∃ d : Nat, s5 = .int .i64 (d : Int) ∧ d + gk = N ∧ (∀ i, i < d → ps[i]? = qs[i]?) ∧ Keeps w wr)
    case atStart => exact ⟨0, rfl, by omega, fun i hi => by omega, by (exact kp)⟩
    case round =>
      obtain ⟨d, rfl, hd, hn, hk⟩ := hrel
      have HNN := Lib.hid hn
      clear hn
      by_cases hlt : d < N
      · obtain ⟨x, hx⟩ : ∃ b, ps[d]? = some b := ⟨_, List.getElem?_eq_getElem (by rw [← HN.out]; exact hlt)⟩
        obtain ⟨y, hy⟩ : ∃ b, qs[d]? = some b := ⟨_, List.getElem?_eq_getElem (by rw [← HM.out]; exact hlt)⟩
        obtain ⟨b1, o1, rfl, c0⟩ := H1.out d x hx
        obtain ⟨b2, o2, rfl, c1⟩ := H2.out d y hy
        replace c0 := hk.cell c0
        replace c1 := hk.cell c1
        have HX := Lib.hid hx
        have HY := Lib.hid hy
        have i0 : (0 : Int) ≤ (d : Int) := by omega
        have i1 : (d : Int) < (N : Int) := by omega
        clear hx hy
        by_cases hab : x = y
        · subst hab
          go_wp2_with fail
          go_quiet (fail)
          go_wp2
          go_roundg (gk - 1)
          case rel =>
            refine ⟨d + 1, by simp, by omega, fun i hi => ?_, by (exact kp)⟩
            by_cases e : i = d
            · subst e; rw [HX.out, HY.out]
            · exact HNN.out i (by omega)
          case measure => omega
        · have gab : (x != y) = true := by simp [hab]
          have hf : Hid (¬ ps = qs) := Lib.hid (fun e => by have := HX.out; rw [e, HY.out] at this; exact hab (Option.some.inj this).symm)
          go_wp2_with fail
          go_quiet (fail)
          go_wp2
          go_ret
          exact ⟨by rw [decide_eq_false hf.out]; rfl, by (exact kp)⟩
      · have hg0 : d = N := by omega
        have hh : ps = qs := by
          apply List.ext_getElem?
          intro i
          by_cases hi : i < d
          · exact HNN.out i hi
          · rw [List.getElem?_eq_none (by rw [← HN.out]; omega), List.getElem?_eq_none (by rw [← HM.out]; omega)]
        have HH := Lib.hid hh
        clear hg0 hh
        go_wp2_with fail
        go_ret
        exact ⟨by rw [decide_eq_true HH.out]; rfl, hk⟩
  · have hf : decide (ps = qs) = false := decide_eq_false (fun e => hne (by rw [e]))
    obtain ⟨N, hN⟩ : ∃ N, N = ps.length := ⟨_, rfl⟩
    obtain ⟨K, hK⟩ : ∃ K, K = qs.length := ⟨_, rfl⟩
    rw [hf]
    rw [← hN, ← hK] at hne ⊢
    have gne : ((N : Int) != (K : Int)) = true := by simp; omega
    clear h1 h2 hl1 hl2 hN hK hf hne
    go_enter Try.func16, Try.ntmps16
    go_wp2
    go_ret
    exact ⟨rfl, by (exact kp)⟩

set_option maxRecDepth 100000 in
set_option maxHeartbeats 1000000 in
theorem refStep_calls (a : Option Addr) (cap : Nat) (ps : List Int) (w : World) (h : IntsAt w a ps) (hl : ps.length ≤ 16) (lv : Nat) (hlv : lv + 1 < ps.length) :
    Calls Try.prog 13 #[.slice a ps.length cap, .int .i64 (lv : Int)] w fun e w' => ∃ a' cap', e = .returned (.slice a' ps.length cap') ∧ RowV w.heap.size w' a' (stepL ps lv) ∧ Keeps w w' := by
  have hget := fun j => stepL_get hlv j
  have hlen := stepL_len ps lv
  obtain ⟨qs, hqs⟩ : ∃ qs, qs = stepL ps lv := ⟨_, rfl⟩
  obtain ⟨N, hN⟩ : ∃ N, N = ps.length := ⟨_, rfl⟩
  rw [← hqs] at hget hlen ⊢
  rw [← hN] at hl hlv hlen ⊢
  have H := Lib.hid h
  have HN := Lib.hid hN
  have HG := Lib.hid hget
  have HL := Lib.hid hlen
  obtain ⟨i0, hi, hz0, hz1, hz2⟩ := info_parts info_int
  clear h hN hget hlen hqs
  go_enter Try.func13, Try.ntmps13
  go_wp2
  go_loopg [5, 6] N (fun gk s5 s6 wr => ∃ (d : Nat) (v : Value), s5 = v ∧ s6 = .int .i64 (d : Int) ∧ d + gk = N ∧ wr.ownsRow w.heap.size 3 1 v d ((qs.take d).map (Value.int .i64)) ∧ Keeps w wr)
  case atStart => exact ⟨0, _, rfl, rfl, by omega, World.ownsRow_nil _ _ _ _, by (exact kp)⟩
  case round =>
    obtain ⟨d, v, rfl, rfl, hd, hown, hk⟩ := hrel
    obtain ⟨va, vcap, rfl, hva⟩ := owns_slice hown
    have HROW := Lib.hid hown
    have HVA := Lib.hid hva
    clear hown hva
    by_cases hlt : d < N
    · obtain ⟨y, hy⟩ : ∃ b, qs[d]? = some b := ⟨_, List.getElem?_eq_getElem (by rw [HL.out]; exact hlt)⟩
      have ht := take_snoc hy
      have HT := Lib.hid ht
      have hs := hk.size
      have q2 : d + 1 ≤ maxLen := by unfold maxLen; omega
      have q3 : (d + 1) * 8 ≤ 140737488355328 := by omega
      have hgd := HG.out d
      rw [hy] at hgd
      have HY := Lib.hid hy
      clear ht hy
      have fin : ∀ (v' : Value) (w3 : World) (o : Obj), w3.ownsRow w.heap.size 3 1 v' (d + 1) ((qs.take d).map (Value.int .i64) ++ [Value.int .i64 y]) → (wr.alloc o).grownBy w3 (Value.slice va d vcap).ownBlock →
          w3.ownsRow w.heap.size 3 1 v' (d + 1) ((qs.take (d + 1)).map (Value.int .i64)) ∧ Keeps w w3 := fun v' w3 o h1 h2 => by
        refine ⟨by rw [HT.out, List.map_append]; exact h1, ?_⟩
        have hu : Upd (fun k => (Value.slice va d vcap).ownBlock = some k) (wr.alloc o) w3 := ⟨h2.os, h2.tape, h2.output, h2.size, fun k hk hn => h2.block k hk (fun e => hn e.symm)⟩
        refine (hk.alloc o).new hu (fun k hkk => ?_)
        rcases HROW.out.2 with ⟨e0, _⟩ | ⟨g', cap', cur, e0, hbg, _⟩
        · rw [e0] at hkk; simp [Value.ownBlock] at hkk
        · rw [e0] at hkk; simp [Value.ownBlock] at hkk; omega
      have FIN := Lib.hid fin
      clear fin
      by_cases h1 : d = lv
      · subst h1
        rw [if_pos rfl] at hgd
        obtain ⟨b, off, rfl, hc0⟩ := H.out (d + 1) y hgd.symm
        have hc := hk.cell hc0
        clear hgd hc0
        have hc1 : wr.cell? ⟨b, off + d + 1, none⟩ = some (.int .i64 y) := by rw [Nat.add_assoc]; exact hc
        have ee : ((d : Int) + 1).toNat = d + 1 := by omega
        go_wp2_with (first
          | (at_builtin; refine wpList_append_own _ rfl _ _ 23 rfl w.heap.size 3 i0 (.int .i64 0) 1 8 Try.underlying23 hi hz0 hz1 hz2 rfl (by decide) (.slice va d vcap) d ((qs.take d).map (Value.int .i64)) rfl (HROW.out.alloc _) ⟨wr.heap.size, 0, none⟩ 1 1 [.int .i64 y] rfl rfl (cell_new _ _ _ _ rfl) (by simp [Value.oneCell']) (by exact q2) (by exact q3) (by simp; omega) ?_; intro v3 w3 hown3 hg3 _; obtain ⟨g1, g2⟩ := FIN.out _ _ _ hown3 hg3)
          | fail)
        go_roundg (gk - 1)
        case rel => exact ⟨d + 1, v3, rfl, by simp, by omega, g1, g2⟩
        case measure => omega
      · rw [if_neg h1] at hgd
        by_cases h2 : d = lv + 1
        · subst h2
          rw [if_pos rfl] at hgd
          obtain ⟨b, off, rfl, hc0⟩ := H.out lv y hgd.symm
          have hc := hk.cell hc0
          clear hgd hc0
          go_wp2_with (first
            | (at_builtin; refine wpList_append_own _ rfl _ _ 23 rfl w.heap.size 3 i0 (.int .i64 0) 1 8 Try.underlying23 hi hz0 hz1 hz2 rfl (by decide) (.slice va (lv + 1) vcap) (lv + 1) ((qs.take (lv + 1)).map (Value.int .i64)) rfl (HROW.out.alloc _) ⟨wr.heap.size, 0, none⟩ 1 1 [.int .i64 y] rfl rfl (cell_new _ _ _ _ rfl) (by simp [Value.oneCell']) (by exact q2) (by exact q3) (by simp; omega) ?_; intro v3 w3 hown3 hg3 _; obtain ⟨g1, g2⟩ := FIN.out _ _ _ hown3 hg3)
            | fail)
          go_roundg (gk - 1)
          case rel => exact ⟨lv + 1 + 1, v3, rfl, by simp, by omega, g1, g2⟩
          case measure => omega
        · rw [if_neg h2] at hgd
          obtain ⟨b, off, rfl, hc0⟩ := H.out d y hgd.symm
          have hc := hk.cell hc0
          have d1 : ¬ (d : Int) = (lv : Int) := by omega
          have d2 : ¬ (d : Int) = (lv : Int) + 1 := by omega
          clear hgd hc0
          go_wp2_with (first
            | (at_builtin; refine wpList_append_own _ rfl _ _ 23 rfl w.heap.size 3 i0 (.int .i64 0) 1 8 Try.underlying23 hi hz0 hz1 hz2 rfl (by decide) (.slice va d vcap) d ((qs.take d).map (Value.int .i64)) rfl (HROW.out.alloc _) ⟨wr.heap.size, 0, none⟩ 1 1 [.int .i64 y] rfl rfl (cell_new _ _ _ _ rfl) (by simp [Value.oneCell']) (by exact q2) (by exact q3) (by simp; omega) ?_; intro v3 w3 hown3 hg3 _; obtain ⟨g1, g2⟩ := FIN.out _ _ _ hown3 hg3)
            | fail)
          go_roundg (gk - 1)
          case rel => exact ⟨d + 1, v3, rfl, by simp, by omega, g1, g2⟩
          case measure => omega
    · have hd2 : d = N := by omega
      subst hd2
      have htk : qs.take d = qs := List.take_of_length_le (by rw [HL.out]; omega)
      have HTK := Lib.hid htk
      clear htk
      go_wp2_with fail
      go_ret
      refine ⟨va, vcap, rfl, fun hn => ?_, hk⟩
      obtain ⟨g, rfl⟩ := HVA.out (by rw [← HL.out]; intro e; exact hn (List.length_eq_zero_iff.1 e))
      have := HROW.out
      rw [HTK.out] at this
      obtain ⟨r1, r2⟩ := rowI_owns this
      exact ⟨g, rfl, r2, r1⟩

end Go.Proofs.Ytoeoehbpahodnaa
