/-
  Walks of package arena.
-/
import Derived.Test.YtoeoehbpahodnaaPRefB
namespace Go.Proofs.Ytoeoehbpahodnaa
set_option linter.unusedSimpArgs false
set_option linter.unusedVariables false
set_option maxHeartbeats 600000
open Go.RowKit

theorem arena_len {F : Nat → Prop} {w : World} {ab : Nat} {cs : List (Option Rec)} {gone : List Int} {cnt room : Int} (h : ArenaRep F w ab cs gone cnt room) :
    Calls Try.prog 71 #[.pointer (some ⟨ab, 0, none⟩)] w fun e w' => e = .returned (.int .i64 cnt) ∧ w = w' := by
  obtain ⟨⟨cv, fv, h1, _⟩, _⟩ := h
  have hc := cell_of_row w ab 2 _ _ _ h1
  simp at hc
  clear h1
  go_enter Try.func71, Try.ntmps71
  go_wp2
  go_ret
  exact ⟨rfl, rfl⟩

theorem arena_room {F : Nat → Prop} {w : World} {ab : Nat} {cs : List (Option Rec)} {gone : List Int} {cnt room : Int} (h : ArenaRep F w ab cs gone cnt room) :
    Calls Try.prog 72 #[.pointer (some ⟨ab, 0, none⟩)] w fun e w' => e = .returned (.int .i64 room) ∧ w = w' := by
  obtain ⟨⟨cv, fv, h1, _⟩, _⟩ := h
  have hc := cell_of_row w ab 3 _ _ _ h1
  simp at hc
  clear h1
  go_enter Try.func72, Try.ntmps72
  go_wp2
  go_ret
  exact ⟨rfl, rfl⟩

end Go.Proofs.Ytoeoehbpahodnaa

namespace Go.Proofs.Ytoeoehbpahodnaa
set_option linter.unusedSimpArgs false
set_option linter.unusedVariables false
set_option maxHeartbeats 600000
open Go.RowKit

theorem run_eql_rec (x y : Rec) (w : World) : (binOp .eql 74 (.agg #[.int .u8 x.form, .int .u8 x.top, .int .u8 x.bot, .int .u8 x.lo.tag, .int .u32 x.lo.to, .int .u8 x.hi.tag, .int .u32 x.hi.to]) (.agg #[.int .u8 y.form, .int .u8 y.top, .int .u8 y.bot, .int .u8 y.lo.tag, .int .u32 y.lo.to, .int .u8 y.hi.tag, .int .u32 y.hi.to])).run Try.prog w = .ok (.bool (decide (x = y))) w := by
  obtain ⟨a, b, c, ⟨d, e⟩, ⟨f, g⟩⟩ := x
  obtain ⟨a', b', c', ⟨d', e'⟩, ⟨f', g'⟩⟩ := y
  simp only []
  by_cases h1 : a = a'
  · by_cases h2 : b = b'
    · by_cases h3 : c = c'
      · by_cases h4 : d = d'
        · by_cases h5 : e = e'
          · by_cases h6 : f = f'
            · by_cases h7 : g = g'
              · simp [go_sem, h1, h2, h3, h4, h5, h6, h7]
              · simp [go_sem, h1, h2, h3, h4, h5, h6, h7]
            · simp [go_sem, h1, h2, h3, h4, h5, h6]
          · simp [go_sem, h1, h2, h3, h4, h5]
        · simp [go_sem, h1, h2, h3, h4]
      · simp [go_sem, h1, h2, h3]
    · simp [go_sem, h1, h2]
  · simp [go_sem, h1]

theorem run_neq_rec (x y : Rec) (w : World) : (binOp .neq 74 (.agg #[.int .u8 x.form, .int .u8 x.top, .int .u8 x.bot, .int .u8 x.lo.tag, .int .u32 x.lo.to, .int .u8 x.hi.tag, .int .u32 x.hi.to]) (.agg #[.int .u8 y.form, .int .u8 y.top, .int .u8 y.bot, .int .u8 y.lo.tag, .int .u32 y.lo.to, .int .u8 y.hi.tag, .int .u32 y.hi.to])).run Try.prog w = .ok (.bool (!decide (x = y))) w := by
  obtain ⟨a, b, c, ⟨d, e⟩, ⟨f, g⟩⟩ := x
  obtain ⟨a', b', c', ⟨d', e'⟩, ⟨f', g'⟩⟩ := y
  simp only []
  by_cases h1 : a = a'
  · by_cases h2 : b = b'
    · by_cases h3 : c = c'
      · by_cases h4 : d = d'
        · by_cases h5 : e = e'
          · by_cases h6 : f = f'
            · by_cases h7 : g = g'
              · simp [go_sem, h1, h2, h3, h4, h5, h6, h7]
              · simp [go_sem, h1, h2, h3, h4, h5, h6, h7]
            · simp [go_sem, h1, h2, h3, h4, h5, h6]
          · simp [go_sem, h1, h2, h3, h4, h5]
        · simp [go_sem, h1, h2, h3, h4]
      · simp [go_sem, h1, h2, h3]
    · simp [go_sem, h1, h2]
  · simp [go_sem, h1]

end Go.Proofs.Ytoeoehbpahodnaa

namespace Go.Proofs.Ytoeoehbpahodnaa
set_option linter.unusedSimpArgs false
set_option linter.unusedVariables false
set_option maxHeartbeats 600000
open Go.RowKit

theorem store_len {F : Nat → Prop} {w : World} {sb : Nat} {M : St} (h : StoreRep F w sb M) :
    Calls Try.prog 39 #[.pointer (some ⟨sb, 0, none⟩)] w fun e w' => e = .returned (.int .i64 M.len) ∧ w = w' := by
  obtain ⟨⟨ab, ib, ts, Fa, Fi, h1, h2, -⟩, -⟩ := h
  have c1 : w.cell? ⟨sb, 1, none⟩ = some (.pointer (some ⟨ab, 0, none⟩)) := by rw [cell_of_row w sb 1 _ _ _ h1]; rfl
  have H := Lib.hid (arena_len h2)
  clear h1 h2
  go_enter Try.func39, Try.ntmps39
  go_wp2_with (go_at_call 71; refine H.out.mono ?_; rintro e w' ⟨rfl, rfl⟩)
  go_ret
  exact ⟨rfl, rfl⟩

theorem store_room {F : Nat → Prop} {w : World} {sb : Nat} {M : St} (h : StoreRep F w sb M) :
    Calls Try.prog 40 #[.pointer (some ⟨sb, 0, none⟩)] w fun e w' => e = .returned (.int .i64 M.room) ∧ w = w' := by
  obtain ⟨⟨ab, ib, ts, Fa, Fi, h1, h2, -⟩, -⟩ := h
  have c1 : w.cell? ⟨sb, 1, none⟩ = some (.pointer (some ⟨ab, 0, none⟩)) := by rw [cell_of_row w sb 1 _ _ _ h1]; rfl
  have H := Lib.hid (arena_room h2)
  clear h1 h2
  go_enter Try.func40, Try.ntmps40
  go_wp2_with (go_at_call 72; refine H.out.mono ?_; rintro e w' ⟨rfl, rfl⟩)
  go_ret
  exact ⟨rfl, rfl⟩

theorem store_has {F : Nat → Prop} {w : World} {sb : Nat} {M : St} (h : StoreRep F w sb M) (r : Rec) (hr : r.ok) :
    Calls Try.prog 41 #[.pointer (some ⟨sb, 0, none⟩), .agg #[.int .u8 r.form, .int .u8 r.top, .int .u8 r.bot, .int .u8 r.lo.tag, .int .u32 r.lo.to, .int .u8 r.hi.tag, .int .u32 r.hi.to]] w fun e w' =>
      e = .returned (.tuple #[.int .u32 ((M.idOf r).getD 0), .bool (M.idOf r).isSome]) ∧ Keeps w w' := by
  have ho : ∀ id, look M.cs id = some r ↔ M.idOf r = some id := fun id => idOf_iff h.once r id
  obtain ⟨⟨ab, ib, ts, Fa, Fi, h1, h2, h3, h4, h5, -⟩, -⟩ := h
  have c1 : w.cell? ⟨sb, 2, none⟩ = some (.pointer (some ⟨ib, 0, none⟩)) := by rw [cell_of_row w sb 2 _ _ _ h1]; rfl
  have hsb := lt_of_heap h1
  have hg : ∀ W, Keeps w W → Calls Try.prog 58 #[.pointer (some ⟨ib, 0, none⟩), .agg #[.int .u8 r.form, .int .u8 r.top, .int .u8 r.bot, .int .u8 r.lo.tag, .int .u32 r.lo.to, .int .u8 r.hi.tag, .int .u32 r.hi.to]] W fun e w' => e = .returned (.tuple #[.int .u32 ((M.idOf r).getD 0), .bool (M.idOf r).isSome]) ∧ Keeps W w' :=
    fun W hW => index_get (h3.keeps hW) r hr (M.idOf r) (fun id => (h5 r id).trans (ho id))
  have H := Lib.hid hg
  clear h1 h2 h3 h4 h5 ho hg
  generalize (M.idOf r).getD 0 = a at *
  generalize (M.idOf r).isSome = b at *
  go_enter Try.func41, Try.ntmps41
  go_wp2
  go_region_held3 (fun w' => w'.cell? ⟨sb, 2, none⟩ = some (.pointer (some ⟨ib, 0, none⟩)) ∧ (w'.cell? ⟨w.heap.size, 0, none⟩ = some (.int .u8 r.form) ∧ w'.cell? ⟨w.heap.size, 1, none⟩ = some (.int .u8 r.top) ∧ w'.cell? ⟨w.heap.size, 2, none⟩ = some (.int .u8 r.bot) ∧ w'.cell? ⟨w.heap.size, 3, none⟩ = some (.int .u8 r.lo.tag) ∧ w'.cell? ⟨w.heap.size, 4, none⟩ = some (.int .u32 r.lo.to) ∧ w'.cell? ⟨w.heap.size, 5, none⟩ = some (.int .u8 r.hi.tag) ∧ w'.cell? ⟨w.heap.size, 6, none⟩ = some (.int .u32 r.hi.to))) (go_keep) ((first | (go_at_call 58; refine (H.out _ (by (exact kp))).mono ?_; rintro e w1 ⟨rfl, hb⟩; obtain ⟨y0, y1, y2, y3, y4, y5, y6⟩ := box7 (w := w) (w1 := w1) (show Keeps (w.alloc (.cells #[.int .u8 r.form, .int .u8 r.top, .int .u8 r.bot, .int .u8 r.lo.tag, .int .u32 r.lo.to, .int .u8 r.hi.tag, .int .u32 r.hi.to] 74)) w1 by (exact kp)); have hk : Keeps w w1 := (by (exact kp)); obtain ⟨hc, hf⟩ := hb.cells; obtain ⟨hcl, hfl⟩ := hk.cells; have hsz := hb.size; (try simp only [World.size_alloc, World.size_drewN, World.size_drew, World.size_setCell] at hsz); have hsl := hk.size; have hz0 : w.heap.size < w1.heap.size := (by omega))))
  go_outline
  all_goals (go_wp2; go_ret2; exact ⟨rfl, by (exact kp)⟩)

end Go.Proofs.Ytoeoehbpahodnaa

namespace Go.Proofs.Ytoeoehbpahodnaa
set_option linter.unusedSimpArgs false
set_option linter.unusedVariables false
set_option maxHeartbeats 600000
open Go.RowKit

set_option maxRecDepth 100000 in
theorem ref_at_low (mb : Nat) (a : Option Addr) (len cap D : Nat) (id : Int) (ids : Nat → Int) (w : World) (h0 : w.cell? ⟨mb, 0, none⟩ = some (.slice a len cap)) (hl : len ≤ 1048576)
    (hv : ∀ i, i < len → ∃ lb, a = some ⟨lb, 0, none⟩ ∧ w.cell? ⟨lb, i * 8, none⟩ = some (.int .u32 (ids i)))
    (hD : D ≤ len) (hgo : ∀ d, d < D → ids d ≠ id) (hstop : D < len → ids D = id) :
    Calls Try.prog 74 #[.pointer (some ⟨mb, 0, none⟩), .int .u32 id] w fun e w' => e = .returned (.int .i64 (if D < len then (D : Int) else -1)) ∧ w = w' := by
  have HV := Lib.hid hv
  have HG := Lib.hid hgo
  have HS := Lib.hid hstop
  clear hv hgo hstop
  go_enter Try.func74, Try.ntmps74
  go_wp2
  go_loopg [5] D (fun gk i wr => ∃ d : Nat, d + gk = D ∧ i = .int .i64 (d : Int) ∧ w = wr)
  case atStart => exact ⟨0, by omega, rfl, rfl⟩
  case round =>
    obtain ⟨d, hd, rfl, rfl⟩ := hrel
    by_cases hg : gk = 0
    · subst hg
      have ed : d = D := by omega
      subst ed
      by_cases hlt : d < len
      · obtain ⟨lb, rfl, hc⟩ := HV.out d hlt
        rw [HS.out hlt] at hc
        go_wp2
        go_ret
        exact ⟨by simp [hlt], rfl⟩
      · go_wp2
        go_ret
        exact ⟨by simp [hlt], rfl⟩
    · have hlt : d < len := by omega
      obtain ⟨lb, rfl, hc⟩ := HV.out d hlt
      have hne := HG.out d (by omega)
      go_wp2
      go_roundg (gk - 1)
      case rel => exact ⟨d + 1, by omega, by simp, rfl⟩
      case measure => omega

set_option maxRecDepth 100000 in
theorem ref_has_low (mb : Nat) (a : Option Addr) (len cap D : Nat) (r : Rec) (ids : Nat → Int) (rs : Nat → Rec) (w : World) (h0 : w.cell? ⟨mb, 0, none⟩ = some (.slice a len cap)) (hl : len ≤ 1048576)
    (hv : ∀ i, i < len → ∃ lb, a = some ⟨lb, 0, none⟩ ∧ ∀ j, j < 8 → w.cell? ⟨lb, i * 8 + j, none⟩ = (nodeVals (ids i, rs i))[j]?)
    (hD : D ≤ len) (hgo : ∀ d, d < D → rs d ≠ r) (hstop : D < len → rs D = r) :
    Calls Try.prog 63 #[.pointer (some ⟨mb, 0, none⟩), .agg #[.int .u8 r.form, .int .u8 r.top, .int .u8 r.bot, .int .u8 r.lo.tag, .int .u32 r.lo.to, .int .u8 r.hi.tag, .int .u32 r.hi.to]] w fun e w' => e = .returned (.int .u32 (if D < len then ids D else 0)) ∧ Keeps w w' := by
  have hmb : mb < w.heap.size := lt_of_cell h0
  have HV := Lib.hid hv
  have HG := Lib.hid hgo
  have HS := Lib.hid hstop
  clear hv hgo hstop
  go_enter Try.func63, Try.ntmps63
  go_wp2
  have i0 : (w.alloc (.cells #[.int .u8 r.form, .int .u8 r.top, .int .u8 r.bot, .int .u8 r.lo.tag, .int .u32 r.lo.to, .int .u8 r.hi.tag, .int .u32 r.hi.to] 74)).cell? ⟨mb, 0, none⟩ = some (.slice a len cap) := by simp [go_sem, hmb, h0]
  have HI := Lib.hid i0
  clear i0
  go_loopg [5] D (fun gk i wr => ∃ d : Nat, d + gk = D ∧ i = .int .i64 (d : Int) ∧ Keeps (w.alloc (.cells #[.int .u8 r.form, .int .u8 r.top, .int .u8 r.bot, .int .u8 r.lo.tag, .int .u32 r.lo.to, .int .u8 r.hi.tag, .int .u32 r.hi.to] 74)) wr)
  case atStart => exact ⟨0, by omega, rfl, Keeps.refl _⟩
  case round =>
    obtain ⟨d, hd, rfl, hk⟩ := hrel
    obtain ⟨q0, q1, q2, q3, q4, q5, q6⟩ := box7 hk
    have i0 := hk.cell HI.out
    have hw : Keeps w wr := ((Keeps.refl w).alloc _).trans hk
    by_cases hlt : d < len
    · obtain ⟨lb, rfl, hc⟩ := HV.out d hlt
      have hsv := fun j hj => hw.cell ((hc j hj).trans (List.getElem?_eq_getElem (by rw [nodeVals_length]; exact hj)))
      have s0 := hsv 0 (by omega)
      have s1 := hsv 1 (by omega)
      have s2 := hsv 2 (by omega)
      have s3 := hsv 3 (by omega)
      have s4 := hsv 4 (by omega)
      have s5 := hsv 5 (by omega)
      have s6 := hsv 6 (by omega)
      have s7 := hsv 7 (by omega)
      simp [nodeVals, recVals] at s0 s1 s2 s3 s4 s5 s6 s7
      clear hsv hc
      by_cases hg : gk = 0
      · subst hg
        have ed : d = D := by omega
        subst ed
        have er := HS.out hlt
        have hq : ∀ W, (binOp .eql 74 (.agg #[.int .u8 (rs d).form, .int .u8 (rs d).top, .int .u8 (rs d).bot, .int .u8 (rs d).lo.tag, .int .u32 (rs d).lo.to, .int .u8 (rs d).hi.tag, .int .u32 (rs d).hi.to]) (.agg #[.int .u8 r.form, .int .u8 r.top, .int .u8 r.bot, .int .u8 r.lo.tag, .int .u32 r.lo.to, .int .u8 r.hi.tag, .int .u32 r.hi.to])).run Try.prog W = .ok (.bool true) W := fun W => by rw [run_eql_rec]; simp [er]
        go_wp2_with fail
        go_quiet (fail)
        go_wp2
        go_ret
        exact ⟨by simp [hlt], by (exact kp)⟩
      · have hne := HG.out d (by omega)
        have hq : ∀ W, (binOp .eql 74 (.agg #[.int .u8 (rs d).form, .int .u8 (rs d).top, .int .u8 (rs d).bot, .int .u8 (rs d).lo.tag, .int .u32 (rs d).lo.to, .int .u8 (rs d).hi.tag, .int .u32 (rs d).hi.to]) (.agg #[.int .u8 r.form, .int .u8 r.top, .int .u8 r.bot, .int .u8 r.lo.tag, .int .u32 r.lo.to, .int .u8 r.hi.tag, .int .u32 r.hi.to])).run Try.prog W = .ok (.bool false) W := fun W => by rw [run_eql_rec]; simp [hne]
        go_wp2_with fail
        go_quiet (fail)
        go_wp2
        go_roundg (gk - 1)
        case rel => exact ⟨d + 1, by omega, by simp, by (exact kp)⟩
        case measure => omega
    · have ed : d = D := by omega
      subst ed
      go_wp2
      go_ret
      exact ⟨by simp [hlt], by (exact kp)⟩

end Go.Proofs.Ytoeoehbpahodnaa

namespace Go.Proofs.Ytoeoehbpahodnaa
set_option linter.unusedSimpArgs false
set_option linter.unusedVariables false
set_option maxHeartbeats 600000
open Go.RowKit

theorem refplain_calls (f t a l n : Int) (w : World) (ht1 : 0 ≤ t) (ht2 : t ≤ 255) :
    Calls Try.prog 73 #[.int .u8 f, .agg #[.int .u8 t, .int .u32 a], .int .i64 l, .int .i64 n] w fun r w' => r = .returned (.bool (plainB f ⟨t, a⟩ l n)) ∧ Keeps w w' := by
  go_enter Try.func73, Try.ntmps73
  go_wp2
  all_goals (go_ret; refine ⟨?_, (Keeps.refl _).alloc _⟩)
  all_goals simp_all [plainB, isFormB, mayB]
  all_goals (try omega)

theorem rightB_good (f t b lt la ht ha n : Int) (g1 : 1 ≤ f) (g2 : f ≤ 5) (g3 : 0 ≤ n) (g4 : n ≤ 16) (g5 : t ≤ b) (g6 : b < n) (ha1 : 0 ≤ ha) :
    rightB ⟨f, t, b, ⟨lt, la⟩, ⟨ht, ha⟩⟩ n = if t < b ∧ f ≠ 3 ∧ f ≠ 4 then false else if plainB f ⟨lt, la⟩ (b + 1) n = true ∧ plainB f ⟨ht, ha⟩ (b + 1) n = true then (if f = 2 ∨ f = 4 then decide (0 < ha) else decide (la ≠ ha ∨ lt ≠ ht)) else false := by
  have e1 : isFormB f = true := by simp [isFormB, g1, g2]
  have e2 : mayB n = true := by simp [mayB, g3, g4]
  have e3 : decide (b < t) = false := decide_eq_false (by omega)
  have e4 : decide (n ≤ b) = false := decide_eq_false (by omega)
  have e5 : (t != b && !chainedB f) = decide (t < b ∧ f ≠ 3 ∧ f ≠ 4) := by
    by_cases h1 : t = b
    · have : ¬ t < b := by omega
      simp [h1]
    · have : t < b := by omega
      by_cases h2 : f = 3 <;> by_cases h3 : f = 4 <;> simp [chainedB, h1, h2, h3, this]
  unfold rightB
  dsimp only
  rw [e1, e2, e3, e4, e5]
  by_cases c1 : t < b ∧ f ≠ 3 ∧ f ≠ 4
  · rw [if_pos c1, if_pos (by simp [c1])]
  · rw [if_neg c1, if_neg (by simp; intro x y; exact Classical.byContradiction fun z => c1 ⟨x, y, z⟩)]
    cases plainB f ⟨lt, la⟩ (b + 1) n <;> cases plainB f ⟨ht, ha⟩ (b + 1) n <;> simp
    by_cases c2 : f = 2 ∨ f = 4
    · rw [if_pos c2]
      have e6 : (f = 2 ∨ f = 4) = True := eq_true c2
      simp only [e6, if_true]
      by_cases c3 : ha = 0
      · subst c3; rfl
      · have : 0 < ha := by omega
        simp [c3, this]
    · by_cases x : lt = ht <;> by_cases y : la = ha <;> simp [c2, x, y]

theorem refright_calls (r : Rec) (hr : r.ok) (n : Int) (w : World) :
    Calls Try.prog 64 #[.agg #[.int .u8 r.form, .int .u8 r.top, .int .u8 r.bot, .int .u8 r.lo.tag, .int .u32 r.lo.to, .int .u8 r.hi.tag, .int .u32 r.hi.to], .int .i64 n] w fun e w' => e = .returned (.bool (rightB r n)) ∧ Keeps w w' := by
  obtain ⟨f, t, b, ⟨lt, la⟩, ⟨ht, ha⟩⟩ := r
  obtain ⟨⟨f1, f2⟩, ⟨t1, t2⟩, ⟨b1, b2⟩, ⟨⟨lt1, lt2⟩, la1, la2⟩, ⟨ht1, ht2⟩, ha1, ha2⟩ := hr
  dsimp only at *
  by_cases hbad : (f < 1 ∨ 5 < f) ∨ (n < 0 ∨ 16 < n) ∨ b < t ∨ n ≤ b
  · have hv : rightB ⟨f, t, b, ⟨lt, la⟩, ⟨ht, ha⟩⟩ n = false := by
      unfold rightB
      rw [if_pos]
      simp only [isFormB, mayB, Bool.or_eq_true, Bool.not_eq_true', Bool.and_eq_false_iff, decide_eq_true_eq, decide_eq_false_iff_not]
      omega
    rw [hv]
    have H := Lib.hid hbad
    clear hbad
    go_enter Try.func64, Try.ntmps64
    go_wp2_with fail
    all_goals first | (go_ret; exact ⟨rfl, by (exact kp)⟩) | (exfalso; have := H.out; omega)
  · have g1 : 1 ≤ f := by omega
    have g2 : f ≤ 5 := by omega
    have g3 : 0 ≤ n := by omega
    have g4 : n ≤ 16 := by omega
    have g5 : t ≤ b := by omega
    have g6 : b < n := by omega
    clear hbad
    go_enter Try.func64, Try.ntmps64
    go_wp2_with (first | (go_at_call 73; refine (refplain_calls _ _ _ _ _ _ (by omega) (by omega)).mono ?_; rintro e w1 ⟨rfl, hb⟩; have hk : Keeps w w1 := (by (exact kp)); obtain ⟨hc, hf⟩ := hb.cells; obtain ⟨hcl, hfl⟩ := hk.cells; have hsz := hb.size; (try simp only [World.size_alloc, World.size_drewN, World.size_drew, World.size_setCell] at hsz); have hsl := hk.size; have hz0 : w.heap.size < w1.heap.size := (by omega)) | fail)
    all_goals (go_ret; refine ⟨?_, by (exact kp)⟩)
    all_goals (congr 2; rw [rightB_good f t b lt la ht ha n g1 g2 g3 g4 g5 g6 ha1])
    all_goals simp_all
    all_goals first | rfl | omega | (by_cases z : lt = ht <;> by_cases y : t < b <;> simp [z, y] <;> omega)

end Go.Proofs.Ytoeoehbpahodnaa

namespace Go.Proofs.Ytoeoehbpahodnaa
set_option linter.unusedSimpArgs false
set_option linter.unusedVariables false
set_option maxHeartbeats 600000
open Go.RowKit

set_option maxRecDepth 100000 in
theorem rleads_low (mb : Nat) (f t ad l n : Int) (al : Option Addr) (len cap D : Nat) (x : Rec) (w : World) (ht1 : 0 ≤ t) (ht2 : t ≤ 255) (hx : x.ok) (hlen : len ≤ 1048576)
    (c3 : w.cell? ⟨mb, 3, none⟩ = some (.int .i64 n)) (c0 : w.cell? ⟨mb, 0, none⟩ = some (.slice al len cap))
    (hat : ∀ W, Keeps w W → Calls Try.prog 74 #[.pointer (some ⟨mb, 0, none⟩), .int .u32 ad] W fun e w' => e = .returned (.int .i64 (if D < len then (D : Int) else -1)) ∧ W = w')
    (hv : D < len → ∃ lb, al = some ⟨lb, 0, none⟩ ∧ ∀ j, j < 7 → w.cell? ⟨lb, D * 8 + (1 + j), none⟩ = (recVals x)[j]?) :
    Calls Try.prog 44 #[.pointer (some ⟨mb, 0, none⟩), .int .u8 f, .agg #[.int .u8 t, .int .u32 ad], .int .i64 l] w fun e w' =>
      e = .returned (.bool (plainB f ⟨t, ad⟩ l n && (decide (ad < 2) || (decide (D < len) && x.form == f && decide (l ≤ x.top) && decide (t ≤ x.top))))) ∧ Keeps w w' := by
  have hmb : mb < w.heap.size := lt_of_cell c0
  obtain ⟨hx1, ⟨hx2, hx3⟩, hx4, hx5, hx6⟩ := hx
  have H := Lib.hid hat
  have HV := Lib.hid hv
  clear hat hv hx1 hx4 hx5 hx6
  cases hp : plainB f ⟨t, ad⟩ l n with
  | false =>
    go_enter Try.func44, Try.ntmps44
    go_wp2_with fail
    go_region_held3 (fun w' => w'.cell? ⟨mb, 3, none⟩ = some (.int .i64 n) ∧ w'.cell? ⟨w.heap.size, 0, none⟩ = some (.int .u8 t) ∧ w'.cell? ⟨w.heap.size, 1, none⟩ = some (.int .u32 ad)) (go_keep) ((first | (go_at_call 73; refine (refplain_calls _ _ _ _ _ _ (by omega) (by omega)).mono ?_; rintro e' w1 ⟨rfl, hb⟩; have hwb : Keeps (w.alloc (.cells #[.int .u8 t, .int .u32 ad] 63)) w1 := (by (exact kp)); have z0 : w1.cell? ⟨w.heap.size, 0, none⟩ = some (.int .u8 t) := hwb.cell (by simp); have z1 : w1.cell? ⟨w.heap.size, 1, none⟩ = some (.int .u32 ad) := hwb.cell (by simp); have hk : Keeps w w1 := (((Keeps.refl _).alloc _).trans hwb); have hsz := hwb.size; simp only [World.size_alloc] at hsz; have d3 := hk.cell c3; have d0 := hk.cell c0)))
    all_goals (go_wp2; go_ret; exact ⟨rfl, by (exact kp)⟩)
  | true =>
    by_cases h2 : ad < 2
    · obtain ⟨q, hq⟩ : ∃ q : Int, ∀ W, Keeps w W → Calls Try.prog 74 #[.pointer (some ⟨mb, 0, none⟩), .int .u32 ad] W fun e w' => e = .returned (.int .i64 q) ∧ W = w' := ⟨_, H.out⟩
      clear H
      have H := Lib.hid hq
      clear hq
      go_enter Try.func44, Try.ntmps44
      go_wp2_with fail
      go_region_held3 (fun w' => w'.cell? ⟨mb, 3, none⟩ = some (.int .i64 n) ∧ w'.cell? ⟨w.heap.size, 0, none⟩ = some (.int .u8 t) ∧ w'.cell? ⟨w.heap.size, 1, none⟩ = some (.int .u32 ad)) (go_keep) ((first | (go_at_call 73; refine (refplain_calls _ _ _ _ _ _ (by omega) (by omega)).mono ?_; rintro e' w1 ⟨rfl, hb⟩; have hwb : Keeps (w.alloc (.cells #[.int .u8 t, .int .u32 ad] 63)) w1 := (by (exact kp)); have z0 : w1.cell? ⟨w.heap.size, 0, none⟩ = some (.int .u8 t) := hwb.cell (by simp); have z1 : w1.cell? ⟨w.heap.size, 1, none⟩ = some (.int .u32 ad) := hwb.cell (by simp); have hk : Keeps w w1 := (((Keeps.refl _).alloc _).trans hwb); have hsz := hwb.size; simp only [World.size_alloc] at hsz; have d3 := hk.cell c3; have d0 := hk.cell c0)))
      all_goals (go_wp2_with (first | (go_at_call 74; refine (H.out _ (by (exact kp))).mono ?_; rintro e' w2 ⟨rfl, rfl⟩) | fail); go_ret; exact ⟨by simp [h2], by (exact kp)⟩)
    · by_cases hD : D < len
      · obtain ⟨lb, rfl, hc⟩ := HV.out hD
        have hsv := fun j hj => (hc j hj).trans (List.getElem?_eq_getElem (show j < (recVals x).length from hj))
        have s0 := hsv 0 (by omega)
        have s1 := hsv 1 (by omega)
        have s2 := hsv 2 (by omega)
        have s3 := hsv 3 (by omega)
        have s4 := hsv 4 (by omega)
        have s5 := hsv 5 (by omega)
        have s6 := hsv 6 (by omega)
        simp [recVals] at s0 s1 s2 s3 s4 s5 s6
        clear hsv hc
        have hlb : lb < w.heap.size := lt_of_cell s0
        simp only [if_pos hD] at H
        go_enter Try.func44, Try.ntmps44
        go_wp2_with fail
        go_region_held3 (fun w' => w'.cell? ⟨mb, 3, none⟩ = some (.int .i64 n) ∧ w'.cell? ⟨w.heap.size, 0, none⟩ = some (.int .u8 t) ∧ w'.cell? ⟨w.heap.size, 1, none⟩ = some (.int .u32 ad)) (go_keep) ((first | (go_at_call 73; refine (refplain_calls _ _ _ _ _ _ (by omega) (by omega)).mono ?_; rintro e' w1 ⟨rfl, hb⟩; have hwb : Keeps (w.alloc (.cells #[.int .u8 t, .int .u32 ad] 63)) w1 := (by (exact kp)); have z0 : w1.cell? ⟨w.heap.size, 0, none⟩ = some (.int .u8 t) := hwb.cell (by simp); have z1 : w1.cell? ⟨w.heap.size, 1, none⟩ = some (.int .u32 ad) := hwb.cell (by simp); have hk : Keeps w w1 := (((Keeps.refl _).alloc _).trans hwb); have hsz := hwb.size; simp only [World.size_alloc] at hsz; have d3 := hk.cell c3; have d0 := hk.cell c0)))
        have u0 := hk.cell s0
        have u1 := hk.cell s1
        have u2 := hk.cell s2
        have u3 := hk.cell s3
        have u4 := hk.cell s4
        have u5 := hk.cell s5
        have u6 := hk.cell s6
        have hmb1 : mb < w1.heap.size := by omega
        have hlb1 : lb < w1.heap.size := by omega
        have hws : w.heap.size < w1.heap.size := by omega
        have HK := Lib.hid hk
        clear hb hwb s0 s1 s2 s3 s4 s5 s6 hk
        go_wp2_with (first | (go_at_call 74; refine (H.out _ (by have := HK.out; (exact kp))).mono ?_; rintro e' w2 ⟨rfl, rfl⟩) | fail)
        all_goals (go_ret; have hkk := HK.out; refine ⟨?_, by (exact kp)⟩)
        all_goals simp_all
        all_goals (try omega)
      · simp only [if_neg hD] at H
        go_enter Try.func44, Try.ntmps44
        go_wp2_with fail
        go_region_held3 (fun w' => w'.cell? ⟨mb, 3, none⟩ = some (.int .i64 n) ∧ w'.cell? ⟨w.heap.size, 0, none⟩ = some (.int .u8 t) ∧ w'.cell? ⟨w.heap.size, 1, none⟩ = some (.int .u32 ad)) (go_keep) ((first | (go_at_call 73; refine (refplain_calls _ _ _ _ _ _ (by omega) (by omega)).mono ?_; rintro e' w1 ⟨rfl, hb⟩; have hwb : Keeps (w.alloc (.cells #[.int .u8 t, .int .u32 ad] 63)) w1 := (by (exact kp)); have z0 : w1.cell? ⟨w.heap.size, 0, none⟩ = some (.int .u8 t) := hwb.cell (by simp); have z1 : w1.cell? ⟨w.heap.size, 1, none⟩ = some (.int .u32 ad) := hwb.cell (by simp); have hk : Keeps w w1 := (((Keeps.refl _).alloc _).trans hwb); have hsz := hwb.size; simp only [World.size_alloc] at hsz; have d3 := hk.cell c3; have d0 := hk.cell c0)))
        all_goals (go_wp2_with (first | (go_at_call 74; refine (H.out _ (by (exact kp))).mono ?_; rintro e' w2 ⟨rfl, rfl⟩) | fail); go_ret; exact ⟨by simp [h2, hD], by (exact kp)⟩)

end Go.Proofs.Ytoeoehbpahodnaa
