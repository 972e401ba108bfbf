/-
  law26.roots.
-/
import Derived.Test.YtoeoehbpahodnaaPSwapHxA
import Derived.Test.YtoeoehbpahodnaaPSwapV
namespace Go.Proofs.Ytoeoehbpahodnaa
set_option linter.unusedSimpArgs false
set_option linter.unusedVariables false
set_option maxHeartbeats 600000
open Go.RowKit

def edgeCells (e : Edge) : List Value := [.int .u8 e.tag, .int .u32 e.to]

theorem info_form : (Try.prog.info? 60).map (fun i => (i.zero, i.size, i.bytes)) = some (some (.int .u8 0), 1, 1) := by kernel_rfl

theorem owns_apartN {w : World} {base : Nat} {e e' : TypeId} {size size' : Nat} {v v' : Value} {n n' : Nat} {xs xs' : List Value} (h : w.ownsRow base e size v n xs) (h' : w.ownsRow base e' size' v' n' xs') (he : e ≠ e') : ∀ k, v.ownBlock = some k → v'.ownBlock ≠ some k := fun k hk hk' => by
  obtain ⟨c1, h1⟩ := owns_type h hk
  obtain ⟨c2, h2⟩ := owns_type h' hk'
  rw [h1] at h2
  have := Option.some.inj h2
  injection this with _ e2 _
  exact he e2

set_option maxRecDepth 100000 in
set_option maxHeartbeats 4000000 in
theorem roots_calls (a : Option Addr) (cap : Nat) (rs : List (Int × Edge)) (w : World) (hR : IsRoots w a rs) (hl : rs.length ≤ 16) :
    Calls Try.prog 9 #[.slice a rs.length cap] w fun e w' => ∃ v5 v6 v7, e = .returned (.tuple #[v5, v6, v7]) ∧ w'.ownsRow w.heap.size 67 3 v5 rs.length (rs.flatMap rootCs) ∧ w'.ownsRow w.heap.size 60 1 v6 rs.length (rs.map (fun r => Value.int .u8 r.1)) ∧ w'.ownsRow w.heap.size 63 2 v7 rs.length (rs.flatMap (fun r => edgeCells r.2)) ∧ Keeps w w' := by
  obtain ⟨N, hN⟩ : ∃ N, N = rs.length := ⟨_, rfl⟩
  rw [← hN] at hl ⊢
  have HR := Lib.hid hR
  have HN := Lib.hid hN
  obtain ⟨i5, hi5, hz50, hz51, hz52⟩ := info_parts info_root
  obtain ⟨i6, hi6, hz60, hz61, hz62⟩ := info_parts info_form
  obtain ⟨i7, hi7, hz70, hz71, hz72⟩ := info_parts info_edge
  clear hR hN
  go_enter Try.func9, Try.ntmps9
  go_wp2
  go_loopg [5, 6, 7, 8] N (fun gk s5 s6 s7 s8 wr => ∃ (d : Nat) (v5 v6 v7 : Value), s5 = v5 ∧ s6 = v6 ∧ s7 = v7 ∧ s8 = .int .i64 (d : Int) ∧ d + gk = N ∧ wr.ownsRow w.heap.size 67 3 v5 d ((rs.take d).flatMap rootCs) ∧ wr.ownsRow w.heap.size 60 1 v6 d ((rs.take d).map (fun r => Value.int .u8 r.1)) ∧ wr.ownsRow w.heap.size 63 2 v7 d ((rs.take d).flatMap (fun r => edgeCells r.2)) ∧ Keeps w wr)
  case atStart => exact ⟨0, _, _, _, rfl, rfl, rfl, rfl, by omega, World.ownsRow_nil _ _ _ _, World.ownsRow_nil _ _ _ _, World.ownsRow_nil _ _ _ _, by (exact kp)⟩
  case round =>
    obtain ⟨d, v5, v6, v7, rfl, rfl, rfl, rfl, hd, h5, h6, h7, hk⟩ := hrel
    obtain ⟨a5, cap5, rfl, hs5⟩ := owns_slice h5
    obtain ⟨a6, cap6, rfl, hs6⟩ := owns_slice h6
    obtain ⟨a7, cap7, rfl, hs7⟩ := owns_slice h7
    have H5 := Lib.hid h5
    have H6 := Lib.hid h6
    have H7 := Lib.hid h7
    clear h5 h6 h7 hs5 hs6 hs7
    by_cases hlt : d < N
    · obtain ⟨r, hx⟩ : ∃ b, rs[d]? = some b := ⟨_, List.getElem?_eq_getElem (by rw [← HN.out]; exact hlt)⟩
      obtain ⟨hf8, hok, b, off, rfl, c0, c1, c2⟩ := HR.out d r hx
      have HTK := Lib.hid (take_snoc hx)
      obtain ⟨f, e⟩ := r
      dsimp only at c0 c1 c2
      have cb0 := c0
      replace c0 := hk.cell c0
      replace c1 := hk.cell c1
      replace c2 := hk.cell c2
      have szk := hk.size
      have q1 : d + 1 ≤ maxLen := by unfold maxLen; omega
      have lb : b < w.heap.size := by have := lt_of_cell cb0; simpa using this
      have nb5 : (Value.slice a5 d cap5).ownBlock ≠ some b := fun hh => by have := owns_from H5.out hh; omega
      clear hx hf8 hok cb0
      go_wp2_with fail
      go_cut [5] (fun s5 wx => ∃ v, s5 = v ∧ wx.ownsRow w.heap.size 67 3 v (d + 1) ((rs.take (d + 1)).flatMap rootCs) ∧ Upd (fun k => (Value.slice a5 d cap5).ownBlock = some k) wr wx)
      case first =>
        go_region_held3 (fun w' => w'.cell? ⟨b, off + d * 3, none⟩ = some (.int .u8 f) ∧ w'.cell? ⟨b, off + d * 3 + 1, none⟩ = some (.int .u8 e.tag) ∧ w'.cell? ⟨b, off + d * 3 + 2, none⟩ = some (.int .u32 e.to)) (go_keep) ((refine step_append_own rfl (.tmp 15) (.tmp 27) 34 rfl w.heap.size 67 i5 _ 3 12 Try.underlying34 hi5 hz50 hz51 hz52 rfl (by decide) (.slice a5 d cap5) d ((rs.take d).flatMap rootCs) rfl ?_ _ 1 1 (rootCs (f, e)) rfl rfl ?_ ?_ ?_ ?_ ?_ ?_; exact Keeps.owns (show Keeps wr _ by (exact kp)) H5.out; (first | exact cell_new _ _ _ _ (by simp) | exact cell_newd _ _ _ _ (by simp)); (intro u hu; simp [rootCs] at hu; rcases hu with rfl | rfl | rfl <;> rfl); exact q1; omega; (simp; omega); intro v' w3 hown3 hgrow hfresh; have t0 := grown_cell (b := b) (o := off + d * 3) (v := .int .u8 f) hgrow nb5 (by go_keep); have t1 := grown_cell (b := b) (o := off + d * 3 + 1) (v := .int .u8 e.tag) hgrow nb5 (by go_keep); have t2 := grown_cell (b := b) (o := off + d * 3 + 2) (v := .int .u32 e.to) hgrow nb5 (by go_keep)))
        all_goals (try go_wp2_with fail)
        all_goals go_meet
        all_goals refine ⟨_, rfl, by rw [HTK.out, List.flatMap_append]; simpa using hown3, ?_⟩
        all_goals exact Upd.grown (by repeat (first | exact Upd.refl _ _ | refine Upd.alloc ?_ _ | refine Upd.drew ?_)) hgrow (fun k hk => .inl hk)
      case rest =>
        rename_i hK
        obtain ⟨v5', rfl, h5', hu5⟩ := hcut
        have ap56 := owns_apartN H5.out H6.out (by decide)
        have ap57 := owns_apartN H5.out H7.out (by decide)
        have ap67 := owns_apartN H6.out H7.out (by decide)
        have h6' := hu5.owns (fun k hk hh => ap56 k hh hk) H6.out
        have h7' := hu5.owns (fun k hk hh => ap57 k hh hk) H7.out
        have nb6 : (Value.slice a6 d cap6).ownBlock ≠ some b := fun hh => by have := owns_from H6.out hh; omega
        have nb7 : (Value.slice a7 d cap7).ownBlock ≠ some b := fun hh => by have := owns_from H7.out hh; omega
        replace c0 := hu5.cellAt nb5 c0
        replace c1 := hu5.cellAt nb5 c1
        replace c2 := hu5.cellAt nb5 c2
        have sz5 := hu5.size
        obtain ⟨a5', cap5', rfl, _⟩ := owns_slice h5'
        have hk5 : Keeps w wc := hk.new hu5 (fun k hk2 => owns_from H5.out hk2)
        have HK5 := Lib.hid hk5
        have H5' := Lib.hid h5'
        have H6' := Lib.hid h6'
        have H7' := Lib.hid h7'
        clear hu5 h5' h6' h7' hk5 ap56 ap57 hk H5
        refine hK _ _ ?_
        clear hK
        apply wp_seq_k
        intro K6 hK6
        go_cut [6] (fun s6 wx => ∃ v, s6 = v ∧ wx.ownsRow w.heap.size 60 1 v (d + 1) ((rs.take (d + 1)).map (fun r => Value.int .u8 r.1)) ∧ Upd (fun k => (Value.slice a6 d cap6).ownBlock = some k) wc wx)
        case first =>
          go_wp2_with (first
            | (at_builtin; refine wpList_append_own _ rfl _ _ 35 rfl w.heap.size 60 i6 (.int .u8 0) 1 1 Try.underlying35 hi6 hz60 hz61 hz62 rfl (by decide) (.slice a6 d cap6) d ((rs.take d).map (fun r => Value.int .u8 r.1)) rfl (H6'.out.alloc _) ⟨wc.heap.size, 0, none⟩ 1 1 [.int .u8 f] rfl rfl (cell_new _ _ _ _ rfl) (by simp [Value.oneCell']) (by exact q1) (by omega) (by simp; omega) ?_; intro v3 w3 hown3 hg3 _)
            | fail)
          go_meet
          exact ⟨_, rfl, by rw [HTK.out, List.map_append]; exact hown3, Upd.grown (by repeat (first | exact Upd.refl _ _ | refine Upd.alloc ?_ _ | refine Upd.drew ?_)) hg3 (fun k hk => .inl hk)⟩
        case rest =>
          obtain ⟨v6', rfl, h6', hu6⟩ := hcut
          obtain ⟨a6', cap6', rfl, _⟩ := owns_slice h6'
          have ap5 := owns_apartN H5'.out H6'.out (by decide)
          have h5' := hu6.owns (fun k hk hh => ap5 k hk hh) H5'.out
          have h7' := hu6.owns (fun k hk hh => ap67 k hh hk) H7'.out
          replace c0 := hu6.cellAt nb6 c0
          replace c1 := hu6.cellAt nb6 c1
          replace c2 := hu6.cellAt nb6 c2
          have sz6 := hu6.size
          have hk6 : Keeps w wc := HK5.out.new hu6 (fun k hk2 => owns_from H6'.out hk2)
          have H75 := Lib.hid (owns_apartN H5'.out H7'.out (by decide))
          have H5'' := Lib.hid h5'
          have H6'' := Lib.hid h6'
          have H7'' := Lib.hid h7'
          have HK6 := Lib.hid hk6
          clear hu6 h5' h6' h7' hk6 ap5 ap67 HK5
          have q3 : (d + 1) * 8 ≤ 140737488355328 := by omega
          go_wp2_with (first
            | (at_builtin; refine wpList_append_own _ rfl _ _ 36 rfl w.heap.size 63 i7 (.agg #[.int .u8 0, .int .u32 0]) 2 8 Try.underlying36 hi7 hz70 hz71 hz72 rfl (by decide) (.slice a7 d cap7) d ((rs.take d).flatMap (fun r => edgeCells r.2)) rfl (H7''.out.alloc _) ⟨wc.heap.size, 0, none⟩ 1 1 [.int .u8 e.tag, .int .u32 e.to] rfl rfl (cell_new _ _ _ _ rfl) (by simp [Value.oneCell']) (by exact q1) (by exact q3) (by simp; omega) ?_; intro v7' w7 hown7 hg7 _)
            | fail)
          go_roundg (gk - 1)
          case rel =>
            have hu7 : Upd (fun k => (Value.slice a7 d cap7).ownBlock = some k) wc w7 := Upd.grown (by repeat (first | exact Upd.refl _ _ | refine Upd.alloc ?_ _ | refine Upd.drew ?_)) hg7 (fun k hk => .inl hk)
            refine ⟨d + 1, _, _, _, rfl, rfl, rfl, by simp, by omega, hu7.owns (fun k hk hh => H75.out k hk hh) H5''.out, hu7.owns (fun k hk hh => owns_apartN H6''.out H7''.out (by decide) k hk hh) H6''.out, ?_, HK6.out.new hu7 (fun k hk2 => owns_from H7''.out hk2)⟩
            rw [HTK.out, List.flatMap_append]
            simpa [edgeCells] using hown7
          case measure => omega
    · have hd2 : d = N := by omega
      have h5 := H5.out
      have h6 := H6.out
      have h7 := H7.out
      have htk : rs.take d = rs := List.take_of_length_le (by rw [← HN.out]; omega)
      rw [htk, hd2] at h5 h6 h7
      have H5' := Lib.hid h5
      have H6' := Lib.hid h6
      have H7' := Lib.hid h7
      subst hd2
      clear h5 h6 h7 htk H5 H6 H7
      go_wp2_with fail
      refine bodyPost_ret (v := .tuple #[.slice a5 d cap5, .slice a6 d cap6, .slice a7 d cap7]) (by simp [results, Try.results9, go_sem]) rfl ⟨_, _, _, rfl, H5'.out, H6'.out, H7'.out, hk⟩

end Go.Proofs.Ytoeoehbpahodnaa
