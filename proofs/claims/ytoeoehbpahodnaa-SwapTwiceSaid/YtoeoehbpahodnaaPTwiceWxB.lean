/-
  law26.with, ramageref21.Ints.
-/
import Derived.Test.YtoeoehbpahodnaaPSwapFxB
namespace Go.Proofs.Ytoeoehbpahodnaa
set_option linter.unusedSimpArgs false
set_option linter.unusedVariables false
set_option maxHeartbeats 600000
open Go.RowKit

theorem ints_calls (a b : Option Addr) (cap cap2 : Nat) (ps qs : List Int) (w : World) (h1 : IntsAt w a ps) (h2 : IntsAt w b qs) (hl1 : ps.length ≤ 1048576) (hl2 : qs.length ≤ 1048576) :
    Calls Try.prog 25 #[.slice a ps.length cap, .slice b qs.length cap2] w fun e w' => e = .returned (.bool (decide (ps = qs))) ∧ Keeps w w' := by
  by_cases hne : ps.length = qs.length
  · obtain ⟨N, hN⟩ : ∃ N, N = ps.length := ⟨_, rfl⟩
    have hM : N = qs.length := hN.trans hne
    rw [← hM, ← hN]
    rw [← hN] at hl1
    have H1 := Lib.hid h1
    have H2 := Lib.hid h2
    have HN := Lib.hid hN
    have HM := Lib.hid hM
    clear h1 h2 hN hM hne hl2
    go_enter Try.func25, Try.ntmps25
    go_wp2
    go_loopg [5] N (fun gk s5 wr => ∃ d : Nat, s5 = .int .i64 (d : Int) ∧ d + gk = N ∧ (∀ i, i < d → ps[i]? = qs[i]?) ∧ Keeps w wr)
    case atStart => exact ⟨0, rfl, by omega, fun i hi => by omega, by (exact kp)⟩
    case round =>
      obtain ⟨d, rfl, hd, hn, hk⟩ := hrel
      have HNN := Lib.hid hn
      clear hn
      by_cases hlt : d < N
      · obtain ⟨x, hx⟩ : ∃ b, ps[d]? = some b := ⟨_, List.getElem?_eq_getElem (by rw [← HN.out]; exact hlt)⟩
        obtain ⟨y, hy⟩ : ∃ b, qs[d]? = some b := ⟨_, List.getElem?_eq_getElem (by rw [← HM.out]; exact hlt)⟩
        obtain ⟨b1, o1, rfl, c0⟩ := H1.out d x hx
        obtain ⟨b2, o2, rfl, c1⟩ := H2.out d y hy
        replace c0 := hk.cell c0
        replace c1 := hk.cell c1
        have HX := Lib.hid hx
        have HY := Lib.hid hy
        have i0 : (0 : Int) ≤ (d : Int) := by omega
        have i1 : (d : Int) < (N : Int) := by omega
        clear hx hy
        by_cases hab : x = y
        · subst hab
          go_wp2_with fail
          go_quiet (fail)
          go_wp2
          go_roundg (gk - 1)
          case rel =>
            refine ⟨d + 1, by simp, by omega, fun i hi => ?_, by (exact kp)⟩
            by_cases e : i = d
            · subst e; rw [HX.out, HY.out]
            · exact HNN.out i (by omega)
          case measure => omega
        · have gab : (x != y) = true := by simp [hab]
          have hf : Hid (¬ ps = qs) := Lib.hid (fun e => by have := HX.out; rw [e, HY.out] at this; exact hab (Option.some.inj this).symm)
          go_wp2_with fail
          go_quiet (fail)
          go_wp2
          go_ret
          exact ⟨by rw [decide_eq_false hf.out]; rfl, by (exact kp)⟩
      · have hg0 : d = N := by omega
        have hh : ps = qs := by
          apply List.ext_getElem?
          intro i
          by_cases hi : i < d
          · exact HNN.out i hi
          · rw [List.getElem?_eq_none (by rw [← HN.out]; omega), List.getElem?_eq_none (by rw [← HM.out]; omega)]
        have HH := Lib.hid hh
        clear hg0 hh
        go_wp2_with fail
        go_ret
        exact ⟨by rw [decide_eq_true HH.out]; rfl, hk⟩
  · have hf : decide (ps = qs) = false := decide_eq_false (fun e => hne (by rw [e]))
    obtain ⟨N, hN⟩ : ∃ N, N = ps.length := ⟨_, rfl⟩
    obtain ⟨K, hK⟩ : ∃ K, K = qs.length := ⟨_, rfl⟩
    rw [hf]
    rw [← hN, ← hK] at hne ⊢
    have gne : ((N : Int) != (K : Int)) = true := by simp; omega
    clear h1 h2 hl1 hl2 hN hK hf hne
    go_enter Try.func25, Try.ntmps25
    go_wp2
    go_ret
    exact ⟨rfl, by (exact kp)⟩

set_option maxRecDepth 100000 in
set_option maxHeartbeats 1000000 in

def withL (rs : List (Int × Edge)) (es : List Edge) : List (Int × Edge) := List.zipWith (fun r e => (r.1, e)) rs es

theorem withL_len {rs : List (Int × Edge)} {es : List Edge} (h : es.length = rs.length) : (withL rs es).length = rs.length := by unfold withL; rw [List.length_zipWith, h, Nat.min_self]

theorem withL_get {rs : List (Int × Edge)} {es : List Edge} {i : Nat} {r : Int × Edge} {e : Edge} (hr : rs[i]? = some r) (he : es[i]? = some e) : (withL rs es)[i]? = some (r.1, e) := by
  unfold withL
  rw [List.getElem?_zipWith, hr, he]

set_option maxRecDepth 100000 in
set_option maxHeartbeats 2000000 in
theorem with_calls (a ax : Option Addr) (cap capx : Nat) (rs : List (Int × Edge)) (es : List Edge) (w : World) (hR : IsRoots w a rs) (hX : EdgesAt w ax es) (hl : rs.length ≤ 16) (hlx : es.length = rs.length) :
    Calls Try.prog 24 #[.slice a rs.length cap, .slice ax rs.length capx] w fun e w' => ∃ v5, e = .returned v5 ∧ w'.ownsRow w.heap.size 67 3 v5 rs.length ((withL rs es).flatMap rootCs) ∧ Keeps w w' := by
  have hwl := withL_len hlx
  obtain ⟨ws, hws⟩ : ∃ ws, ws = withL rs es := ⟨_, rfl⟩
  have hget : ∀ (i : Nat) (r : Int × Edge) (e : Edge), rs[i]? = some r → es[i]? = some e → ws[i]? = some (r.1, e) := fun i r e h1 h2 => by rw [hws]; exact withL_get h1 h2
  rw [← hws] at hwl ⊢
  obtain ⟨N, hN⟩ : ∃ N, N = rs.length := ⟨_, rfl⟩
  rw [← hN] at hl hlx hwl ⊢
  have HR := Lib.hid hR
  have HX := Lib.hid hX
  have HN := Lib.hid hN
  have HWL := Lib.hid hwl
  have HLX := Lib.hid hlx
  have HGT := Lib.hid hget
  obtain ⟨i5, hi5, hz50, hz51, hz52⟩ := info_parts info_root
  clear hR hX hN hwl hlx hget hws
  go_enter Try.func24, Try.ntmps24
  go_wp2
  go_loopg [5, 6] N (fun gk s5 s6 wr => ∃ (d : Nat) (v5 : Value), s5 = v5 ∧ s6 = .int .i64 (d : Int) ∧ d + gk = N ∧ wr.ownsRow w.heap.size 67 3 v5 d ((ws.take d).flatMap rootCs) ∧ Keeps w wr)
  case atStart => exact ⟨0, _, rfl, rfl, by omega, World.ownsRow_nil _ _ _ _, by (exact kp)⟩
  case round =>
    obtain ⟨d, v5, rfl, rfl, hd, h5, hk⟩ := hrel
    obtain ⟨a5, cap5, rfl, hs5⟩ := owns_slice h5
    have H5 := Lib.hid h5
    clear h5 hs5
    by_cases hlt : d < N
    · obtain ⟨r, hx⟩ : ∃ b, rs[d]? = some b := ⟨_, List.getElem?_eq_getElem (by rw [← HN.out]; exact hlt)⟩
      obtain ⟨e, hy⟩ : ∃ b, es[d]? = some b := ⟨_, List.getElem?_eq_getElem (by rw [HLX.out]; exact hlt)⟩
      obtain ⟨hf8, hok, b, off, rfl, c0, c1, c2⟩ := HR.out d r hx
      obtain ⟨heok, b2, off2, rfl, x0, x1⟩ := HX.out d e hy
      have HTK := Lib.hid (take_snoc (HGT.out d r e hx hy))
      obtain ⟨f, e0⟩ := r
      dsimp only at c0 c1 c2
      have cb0 := c0
      have cx0 := x0
      replace c0 := hk.cell c0
      replace x0 := hk.cell x0
      replace x1 := hk.cell x1
      have szk := hk.size
      have q1 : d + 1 ≤ maxLen := by unfold maxLen; omega
      have lb : b < w.heap.size := by have := lt_of_cell cb0; simpa using this
      have lb2 : b2 < w.heap.size := by have := lt_of_cell cx0; simpa using this
      have nb5 : (Value.slice a5 d cap5).ownBlock ≠ some b := fun hh => by have := owns_from H5.out hh; omega
      have nb6 : (Value.slice a5 d cap5).ownBlock ≠ some b2 := fun hh => by have := owns_from H5.out hh; omega
      clear hx hy hf8 hok heok cb0 cx0 c1 c2
      go_wp2_with fail
      go_region_held3 (fun w' => w'.cell? ⟨b, off + d * 3, none⟩ = some (.int .u8 f) ∧ w'.cell? ⟨b2, off2 + d * 2, none⟩ = some (.int .u8 e.tag) ∧ w'.cell? ⟨b2, off2 + d * 2 + 1, none⟩ = some (.int .u32 e.to)) (go_keep) ((refine step_append_own rfl (.tmp 19) (.tmp 30) 34 rfl w.heap.size 67 i5 _ 3 12 Try.underlying34 hi5 hz50 hz51 hz52 rfl (by decide) (.slice a5 d cap5) d ((ws.take d).flatMap rootCs) rfl ?_ _ 1 1 (rootCs (f, e)) rfl rfl ?_ ?_ ?_ ?_ ?_ ?_; exact Keeps.owns (show Keeps wr _ by (exact kp)) H5.out; (first | exact cell_new _ _ _ _ (by simp) | exact cell_newd _ _ _ _ (by simp)); (intro u hu; simp [rootCs] at hu; rcases hu with rfl | rfl | rfl <;> rfl); exact q1; omega; (simp; omega); intro v' w3 hown3 hgrow hfresh; have t0 := grown_cell (b := b) (o := off + d * 3) (v := .int .u8 f) hgrow nb5 (by go_keep); have t1 := grown_cell (b := b2) (o := off2 + d * 2) (v := .int .u8 e.tag) hgrow nb6 (by go_keep); have t2 := grown_cell (b := b2) (o := off2 + d * 2 + 1) (v := .int .u32 e.to) hgrow nb6 (by go_keep)))
      all_goals (try go_wp2_with fail)
      all_goals go_roundg (gk - 1)
      all_goals (try (show gk - 1 < gk; omega))
      all_goals refine ⟨d + 1, _, rfl, by simp, by omega, by rw [HTK.out, List.flatMap_append]; simpa using hown3, hk.new (F := fun k => (Value.slice a5 d cap5).ownBlock = some k) (Upd.grown (by repeat (first | exact Upd.refl _ _ | refine Upd.alloc ?_ _ | refine Upd.drew ?_)) hgrow (fun k hk => .inl hk)) (fun k hk2 => owns_from H5.out hk2)⟩
    · have hd2 : d = N := by omega
      subst hd2
      have hO := H5.out
      rw [List.take_of_length_le (by rw [HWL.out]; exact Nat.le_refl _)] at hO
      have HO := Lib.hid hO
      clear hO
      go_wp2_with fail
      go_ret
      exact ⟨_, rfl, HO.out, hk⟩

end Go.Proofs.Ytoeoehbpahodnaa
