/-
  law26.roots.
-/
import Derived.Test.YtoeoehbpahodnaaPConvW
import Derived.Test.YtoeoehbpahodnaaPSwapO
namespace Go.Proofs.Ytoeoehbpahodnaa
set_option linter.unusedSimpArgs false
set_option linter.unusedVariables false
set_option maxHeartbeats 600000
open Go.RowKit

def rootCs (r : Int × Edge) : List Value := [.int .u8 r.1, .int .u8 r.2.tag, .int .u32 r.2.to]

def edgeCells (e : Edge) : List Value := [.int .u8 e.tag, .int .u32 e.to]

theorem info_root : (Try.prog.info? 67).map (fun i => (i.zero, i.size, i.bytes)) = some (some (.agg #[.int .u8 0, .int .u8 0, .int .u32 0]), 3, 12) := by kernel_rfl

theorem info_form : (Try.prog.info? 60).map (fun i => (i.zero, i.size, i.bytes)) = some (some (.int .u8 0), 1, 1) := by kernel_rfl

theorem owns_apartN {w : World} {base : Nat} {e e' : TypeId} {size size' : Nat} {v v' : Value} {n n' : Nat} {xs xs' : List Value} (h : w.ownsRow base e size v n xs) (h' : w.ownsRow base e' size' v' n' xs') (he : e ≠ e') : ∀ k, v.ownBlock = some k → v'.ownBlock ≠ some k := fun k hk hk' => by
  obtain ⟨c1, h1⟩ := owns_type h hk
  obtain ⟨c2, h2⟩ := owns_type h' hk'
  rw [h1] at h2
  have := Option.some.inj h2
  injection this with _ e2 _
  exact he e2

theorem owns_from {w : World} {base : Nat} {e : TypeId} {size : Nat} {v : Value} {n : Nat} {xs : List Value} (h : w.ownsRow base e size v n xs) {k : Nat} (hk : v.ownBlock = some k) : base ≤ k := by
  rcases h.2 with ⟨e0, _⟩ | ⟨g', cap', cur, e0, hbg, _⟩
  · rw [e0] at hk; simp [Value.ownBlock] at hk
  · rw [e0] at hk; simp [Value.ownBlock] at hk; omega

set_option maxRecDepth 100000 in
set_option maxHeartbeats 4000000 in
theorem roots_calls (a : Option Addr) (cap : Nat) (rs : List (Int × Edge)) (w : World) (hR : IsRoots w a rs) (hl : rs.length ≤ 16) :
    Calls Try.prog 9 #[.slice a rs.length cap] w fun e w' => ∃ v5 v6 v7, e = .returned (.tuple #[v5, v6, v7]) ∧ w'.ownsRow w.heap.size 67 3 v5 rs.length (rs.flatMap rootCs) ∧ w'.ownsRow w.heap.size 60 1 v6 rs.length (rs.map (fun r => Value.int .u8 r.1)) ∧ w'.ownsRow w.heap.size 63 2 v7 rs.length (rs.flatMap (fun r => edgeCells r.2)) ∧ Keeps w w' := by
  obtain ⟨N, hN⟩ : ∃ N, N = rs.length := ⟨_, rfl⟩
  rw [← hN] at hl ⊢
  have HR := Lib.hid hR
  have HN := Lib.hid hN
  obtain ⟨i5, hi5, hz50, hz51, hz52⟩ := info_parts info_root
  obtain ⟨i6, hi6, hz60, hz61, hz62⟩ := info_parts info_form
  obtain ⟨i7, hi7, hz70, hz71, hz72⟩ := info_parts info_edge
  clear hR hN
  go_enter Try.func9, Try.ntmps9
  go_wp2
  go_loopg [5, 6, 7, 8] N (fun gk s5 s6 s7 s8 wr => ∃ (d : Nat) (v5 v6 v7 : Value), s5 = v5 ∧ s6 = v6 ∧ s7 = v7 ∧ s8 = .int .i64 (d : Int) ∧ d + gk = N ∧ wr.ownsRow w.heap.size 67 3 v5 d ((rs.take d).flatMap rootCs) ∧ wr.ownsRow w.heap.size 60 1 v6 d ((rs.take d).map (fun r => Value.int .u8 r.1)) ∧ wr.ownsRow w.heap.size 63 2 v7 d ((rs.take d).flatMap (fun r => edgeCells r.2)) ∧ Keeps w wr)
  case atStart => exact ⟨0, _, _, _, rfl, rfl, rfl, rfl, by omega, World.ownsRow_nil _ _ _ _, World.ownsRow_nil _ _ _ _, World.ownsRow_nil _ _ _ _, by (exact kp)⟩
  case round =>
    obtain ⟨d, v5, v6, v7, rfl, rfl, rfl, rfl, hd, h5, h6, h7, hk⟩ := hrel
    obtain ⟨a5, cap5, rfl, hs5⟩ := owns_slice h5
    obtain ⟨a6, cap6, rfl, hs6⟩ := owns_slice h6
    obtain ⟨a7, cap7, rfl, hs7⟩ := owns_slice h7
    have H5 := Lib.hid h5
    have H6 := Lib.hid h6
    have H7 := Lib.hid h7
    clear h5 h6 h7 hs5 hs6 hs7
    by_cases hlt : d < N
    · obtain ⟨r, hx⟩ : ∃ b, rs[d]? = some b := ⟨_, List.getElem?_eq_getElem (by rw [← HN.out]; exact hlt)⟩
      obtain ⟨hf8, hok, b, off, rfl, c0, c1, c2⟩ := HR.out d r hx
      have HTK := Lib.hid (take_snoc hx)
      obtain ⟨f, e⟩ := r
      dsimp only at c0 c1 c2
      have cb0 := c0
      replace c0 := hk.cell c0
      replace c1 := hk.cell c1
      replace c2 := hk.cell c2
      have szk := hk.size
      have q1 : d + 1 ≤ maxLen := by unfold maxLen; omega
      have lb : b < w.heap.size := by have := lt_of_cell cb0; simpa using this
      have nb5 : (Value.slice a5 d cap5).ownBlock ≠ some b := fun hh => by have := owns_from H5.out hh; omega
      clear hx hf8 hok cb0
      go_wp2_with fail
      go_cut [5] (fun s5 wx => ∃ v, s5 = v ∧ wx.ownsRow w.heap.size 67 3 v (d + 1) ((rs.take (d + 1)).flatMap rootCs) ∧ Upd (fun k => (Value.slice a5 d cap5).ownBlock = some k) wr wx)
      case first =>
        go_region_held3 (fun w' => w'.cell? ⟨b, off + d * 3, none⟩ = some (.int .u8 f) ∧ w'.cell? ⟨b, off + d * 3 + 1, none⟩ = some (.int .u8 e.tag) ∧ w'.cell? ⟨b, off + d * 3 + 2, none⟩ = some (.int .u32 e.to)) (go_keep) ((refine step_append_own rfl (.tmp 15) (.tmp 27) 34 rfl w.heap.size 67 i5 _ 3 12 Try.underlying34 hi5 hz50 hz51 hz52 rfl (by decide) (.slice a5 d cap5) d ((rs.take d).flatMap rootCs) rfl ?_ _ 1 1 (rootCs (f, e)) rfl rfl ?_ ?_ ?_ ?_ ?_ ?_; exact Keeps.owns (show Keeps wr _ by (exact kp)) H5.out; (first | exact cell_new _ _ _ _ (by simp) | exact cell_newd _ _ _ _ (by simp)); (intro u hu; simp [rootCs] at hu; rcases hu with rfl | rfl | rfl <;> rfl); exact q1; omega; (simp; omega); intro v' w3 hown3 hgrow hfresh; have t0 := grown_cell (b := b) (o := off + d * 3) (v := .int .u8 f) hgrow nb5 (by go_keep); have t1 := grown_cell (b := b) (o := off + d * 3 + 1) (v := .int .u8 e.tag) hgrow nb5 (by go_keep); have t2 := grown_cell (b := b) (o := off + d * 3 + 2) (v := .int .u32 e.to) hgrow nb5 (by go_keep)))
        all_goals (try go_wp2_with fail)
        all_goals go_meet
        all_goals refine ⟨_, rfl, by rw [HTK.out, List.flatMap_append]; simpa using hown3, ?_⟩
        all_goals exact Upd.grown (by repeat (first | exact Upd.refl _ _ | refine Upd.alloc ?_ _ | refine Upd.drew ?_)) hgrow (fun k hk => .inl hk)
      case rest =>
        rename_i hK
        obtain ⟨v5', rfl, h5', hu5⟩ := hcut
        have ap56 := owns_apartN H5.out H6.out (by decide)
        have ap57 := owns_apartN H5.out H7.out (by decide)
        have ap67 := owns_apartN H6.out H7.out (by decide)
        have h6' := hu5.owns (fun k hk hh => ap56 k hh hk) H6.out
        have h7' := hu5.owns (fun k hk hh => ap57 k hh hk) H7.out
        have nb6 : (Value.slice a6 d cap6).ownBlock ≠ some b := fun hh => by have := owns_from H6.out hh; omega
        have nb7 : (Value.slice a7 d cap7).ownBlock ≠ some b := fun hh => by have := owns_from H7.out hh; omega
        replace c0 := hu5.cellAt nb5 c0
        replace c1 := hu5.cellAt nb5 c1
        replace c2 := hu5.cellAt nb5 c2
        have sz5 := hu5.size
        obtain ⟨a5', cap5', rfl, _⟩ := owns_slice h5'
        have hk5 : Keeps w wc := hk.new hu5 (fun k hk2 => owns_from H5.out hk2)
        have HK5 := Lib.hid hk5
        have H5' := Lib.hid h5'
        have H6' := Lib.hid h6'
        have H7' := Lib.hid h7'
        clear hu5 h5' h6' h7' hk5 ap56 ap57 hk H5
        refine hK _ _ ?_
        clear hK
        apply wp_seq_k
        intro K6 hK6
        go_cut [6] (fun s6 wx => ∃ v, s6 = v ∧ wx.ownsRow w.heap.size 60 1 v (d + 1) ((rs.take (d + 1)).map (fun r => Value.int .u8 r.1)) ∧ Upd (fun k => (Value.slice a6 d cap6).ownBlock = some k) wc wx)
        case first =>
          go_wp2_with (first
            | (at_builtin; refine wpList_append_own _ rfl _ _ 35 rfl w.heap.size 60 i6 (.int .u8 0) 1 1 Try.underlying35 hi6 hz60 hz61 hz62 rfl (by decide) (.slice a6 d cap6) d ((rs.take d).map (fun r => Value.int .u8 r.1)) rfl (H6'.out.alloc _) ⟨wc.heap.size, 0, none⟩ 1 1 [.int .u8 f] rfl rfl (cell_new _ _ _ _ rfl) (by simp [Value.oneCell']) (by exact q1) (by omega) (by simp; omega) ?_; intro v3 w3 hown3 hg3 _)
            | fail)
          go_meet
          exact ⟨_, rfl, by rw [HTK.out, List.map_append]; exact hown3, Upd.grown (by repeat (first | exact Upd.refl _ _ | refine Upd.alloc ?_ _ | refine Upd.drew ?_)) hg3 (fun k hk => .inl hk)⟩
        case rest =>
          obtain ⟨v6', rfl, h6', hu6⟩ := hcut
          obtain ⟨a6', cap6', rfl, _⟩ := owns_slice h6'
          have ap5 := owns_apartN H5'.out H6'.out (by decide)
          have h5' := hu6.owns (fun k hk hh => ap5 k hk hh) H5'.out
          have h7' := hu6.owns (fun k hk hh => ap67 k hh hk) H7'.out
          replace c0 := hu6.cellAt nb6 c0
          replace c1 := hu6.cellAt nb6 c1
          replace c2 := hu6.cellAt nb6 c2
          have sz6 := hu6.size
          have hk6 : Keeps w wc := HK5.out.new hu6 (fun k hk2 => owns_from H6'.out hk2)
          have H75 := Lib.hid (owns_apartN H5'.out H7'.out (by decide))
          have H5'' := Lib.hid h5'
          have H6'' := Lib.hid h6'
          have H7'' := Lib.hid h7'
          have HK6 := Lib.hid hk6
          clear hu6 h5' h6' h7' hk6 ap5 ap67 HK5
          have q3 : (d + 1) * 8 ≤ 140737488355328 := by omega
          go_wp2_with (first
            | (at_builtin; refine wpList_append_own _ rfl _ _ 36 rfl w.heap.size 63 i7 (.agg #[.int .u8 0, .int .u32 0]) 2 8 Try.underlying36 hi7 hz70 hz71 hz72 rfl (by decide) (.slice a7 d cap7) d ((rs.take d).flatMap (fun r => edgeCells r.2)) rfl (H7''.out.alloc _) ⟨wc.heap.size, 0, none⟩ 1 1 [.int .u8 e.tag, .int .u32 e.to] rfl rfl (cell_new _ _ _ _ rfl) (by simp [Value.oneCell']) (by exact q1) (by exact q3) (by simp; omega) ?_; intro v7' w7 hown7 hg7 _)
            | fail)
          go_roundg (gk - 1)
          case rel =>
            have hu7 : Upd (fun k => (Value.slice a7 d cap7).ownBlock = some k) wc w7 := Upd.grown (by repeat (first | exact Upd.refl _ _ | refine Upd.alloc ?_ _ | refine Upd.drew ?_)) hg7 (fun k hk => .inl hk)
            refine ⟨d + 1, _, _, _, rfl, rfl, rfl, by simp, by omega, hu7.owns (fun k hk hh => H75.out k hk hh) H5''.out, hu7.owns (fun k hk hh => owns_apartN H6''.out H7''.out (by decide) k hk hh) H6''.out, ?_, HK6.out.new hu7 (fun k hk2 => owns_from H7''.out hk2)⟩
            rw [HTK.out, List.flatMap_append]
            simpa [edgeCells] using hown7
          case measure => omega
    · have hd2 : d = N := by omega
      have h5 := H5.out
      have h6 := H6.out
      have h7 := H7.out
      have htk : rs.take d = rs := List.take_of_length_le (by rw [← HN.out]; omega)
      rw [htk, hd2] at h5 h6 h7
      have H5' := Lib.hid h5
      have H6' := Lib.hid h6
      have H7' := Lib.hid h7
      subst hd2
      clear h5 h6 h7 htk H5 H6 H7
      go_wp2_with fail
      refine bodyPost_ret (v := .tuple #[.slice a5 d cap5, .slice a6 d cap6, .slice a7 d cap7]) (by simp [results, Try.results9, go_sem]) rfl ⟨_, _, _, rfl, H5'.out, H6'.out, H7'.out, hk⟩

end Go.Proofs.Ytoeoehbpahodnaa

namespace Go.Proofs.Ytoeoehbpahodnaa
set_option linter.unusedSimpArgs false
set_option linter.unusedVariables false
set_option maxHeartbeats 600000
open Go.RowKit

theorem ordAt_calls (a : Option Addr) (cap : Nat) (ps : List Int) (w : World) (h : IntsAt w a ps) (hl : ps.length ≤ 16) (i : Nat) (x : Int) (hx : ps[i]? = some x) :
    Calls Try.prog 55 #[.slice a ps.length cap, .int .i64 (i : Int)] w fun e w' => e = .returned (.int .i64 x) ∧ w = w' := by
  obtain ⟨b, off, rfl, hc⟩ := h i x hx
  have hi := (List.getElem?_eq_some_iff.1 hx).1
  obtain ⟨N, hN⟩ : ∃ N, N = ps.length := ⟨_, rfl⟩
  rw [← hN] at hl hi ⊢
  clear h hx hN
  go_enter Try.func55, Try.ntmps55
  go_wp2
  go_ret
  exact ⟨rfl, rfl⟩

theorem ordVar_calls {F : Nat → Prop} {w : World} {ob : Nat} {ps : List Int} (h : OrdRep F w ob ps) (i : Nat) (x : Int) (hx : ps[i]? = some x) :
    Calls Try.prog 29 #[.pointer (some ⟨ob, 0, none⟩), .int .i64 (i : Int)] w fun e w' => e = .returned (.int .i64 x) ∧ w = w' := by
  obtain ⟨va, vc, lg, lc, c0, c1, hi⟩ := h.cells
  have HC := Lib.hid (ordAt_calls va vc ps w hi h.le i x hx)
  obtain ⟨n, hn⟩ : ∃ n, n = ps.length := ⟨_, rfl⟩
  rw [← hn] at c0 c1 HC
  clear h c1 hi hn hx
  go_enter Try.func29, Try.ntmps29
  go_wp2_with (first | (go_at_call 55; refine HC.out.mono ?_; rintro e w1 ⟨rfl, rfl⟩) | fail)
  go_ret
  exact ⟨rfl, rfl⟩

theorem ordLevel_calls {F : Nat → Prop} {w : World} {ob : Nat} {ps : List Int} (h : OrdRep F w ob ps) (i v : Nat) (hx : ps[i]? = some (v : Int)) :
    Calls Try.prog 53 #[.pointer (some ⟨ob, 0, none⟩), .int .i64 (v : Int)] w fun e w' => e = .returned (.int .i64 (i : Int)) ∧ w = w' := by
  have hle := h.le
  obtain ⟨⟨va, vc, lg, lc, qs, h1, h2, h3, h4, h5⟩, _⟩ := h
  have c1 : w.cell? ⟨ob, 1, none⟩ = some (.slice (some ⟨lg, 0, none⟩) ps.length lc) := by rw [cell_of_row w ob 1 _ _ _ h1]; rfl
  have hq := h2.2 i v hx
  rw [Int.toNat_natCast] at hq
  have HC := Lib.hid (ordAt_calls (some ⟨lg, 0, none⟩) lc qs w h4.ints (by rw [h2.1]; exact hle) v (i : Int) hq)
  rw [h2.1] at HC
  obtain ⟨n, hn⟩ : ∃ n, n = ps.length := ⟨_, rfl⟩
  rw [← hn] at c1 HC
  clear h1 h2 h3 h4 h5 hn hx hq hle
  go_enter Try.func53, Try.ntmps53
  go_wp2_with (first | (go_at_call 55; refine HC.out.mono ?_; rintro e w1 ⟨rfl, rfl⟩) | fail)
  go_ret
  exact ⟨rfl, rfl⟩

set_option maxRecDepth 100000 in
theorem stage_calls (room : Int) (a : Option Addr) (cap : Nat) (ps : List Int) (w : World) (h : IntsAt w a ps) (hp : permB ps = true) (h0 : 0 ≤ room) (h1 : room ≤ 1048576) :
    Calls Try.prog 20 #[.int .i64 room, .slice a ps.length cap] w fun e w' => ∃ sb ob F Fo, e = .returned (.tuple #[.pointer (some ⟨sb, 0, none⟩), .pointer (some ⟨ob, 0, none⟩), .bool true]) ∧ Keeps w w' ∧ StoreRep F w' sb (St.new (ps.length : Int) room) ∧ OrdRep Fo w' ob ps ∧ (∀ k, F k → ¬ Fo k) ∧ (∀ k, F k → w.heap.size ≤ k) ∧ (∀ k, Fo k → w.heap.size ≤ k) := by
  have hl := (permB_iff.1 hp).1
  have hO := fun (W : World) (hW : Keeps w W) => orderOf_calls a cap ps W (h.keeps hW) (by omega)
  have hS := fun (W : World) => store_new (ps.length : Int) room W (by omega) (by omega) h0 h1
  simp only [hp, if_true] at hO
  obtain ⟨N, hN⟩ : ∃ N, N = ps.length := ⟨_, rfl⟩
  rw [← hN] at hO hS hl ⊢
  have HO := Lib.hid hO
  have HS := Lib.hid hS
  clear hO hS h hp hN
  go_enter Try.func20, Try.ntmps20
  go_wp2_with (first | (go_at_call 30; refine (HS.out _).mono ?_; rintro e w1 ⟨sb, F, rfl, hk1, hF, hR⟩) | fail)
  refine (HO.out _ hk1).mono ?_
  rintro e w2 ⟨hk2, ob, Fo, rfl, hOR, hFo⟩
  have HR := Lib.hid hR
  have HOR := Lib.hid hOR
  clear hR hOR
  go_wp2_with fail
  refine bodyPost_ret (v := .tuple #[.pointer (some ⟨sb, 0, none⟩), .pointer (some ⟨ob, 0, none⟩), .bool true]) (by simp [results, Try.results20, go_sem]) rfl ⟨sb, ob, F, Fo, rfl, hk1.trans hk2, HR.out.keeps hk2, HOR.out, fun k hk hh => ?_, hF, fun k hk => ?_⟩
  · have := HR.out.lt k hk
    have := hFo k hh
    omega
  · have := hFo k hk
    have := hk1.size
    omega

set_option maxRecDepth 100000 in
theorem buildMay_calls {F Fo : Nat → Prop} {w : World} {sb ob : Nat} {M : St} {ps : List Int} (h : StoreRep F w sb M) (ho : OrdRep Fo w ob ps) (hn : M.n = (ps.length : Int)) (f : Int) (hf : isFormB f = true) :
    Calls Try.prog 48 #[.pointer (some ⟨sb, 0, none⟩), .pointer (some ⟨ob, 0, none⟩), .int .u8 f] w fun e w' => e = .returned (.int .u8 0) ∧ Keeps w w' := by
  have HV := Lib.hid (fun (W : World) (hW : Keeps w W) => store_vars (h.keeps hW))
  have HO := Lib.hid (fun (W : World) (hW : Keeps w W) => ordVars_calls (ho.keeps hW))
  have hif := isForm_calls f
  rw [hf] at hif
  have HI := Lib.hid hif
  rw [hn] at HV
  have hle := ho.le
  obtain ⟨N, hN⟩ : ∃ N, N = ps.length := ⟨_, rfl⟩
  rw [← hN] at HV HO hle
  clear h ho hn hif hf hN
  go_enter Try.func48, Try.ntmps48
  go_wp2_with (first | (go_at_call 36; refine (HV.out _ (by (exact kp))).mono ?_; rintro e w1 ⟨rfl, rfl⟩) | (go_at_call 66; refine (HO.out _ (by (exact kp))).mono ?_; rintro e w1 ⟨rfl, rfl⟩) | (go_at_call 77; refine (HI.out _).mono ?_; rintro e w1 ⟨rfl, rfl⟩) | fail)
  go_ret
  exact ⟨rfl, by (exact kp)⟩

def VarOut (F : Nat → Prop) (w : World) (sb : Nat) (M' : St) (x : Edge) (er : Int) (r : Ending) (w' : World) : Prop :=
  ∃ F', r = .returned (.tuple #[.agg #[.int .u8 x.tag, .int .u32 x.to], .int .u8 er]) ∧ Upd F w w' ∧ StoreRep F' w' sb M' ∧ (∀ j, F' j → F j ∨ w.heap.size ≤ j)

set_option maxRecDepth 100000 in
set_option maxHeartbeats 2000000 in
theorem buildVar_calls {F Fo : Nat → Prop} {w : World} {sb ob : Nat} {M : St} {ps : List Int} (h : StoreRep F w sb M) (ho : OrdRep Fo w ob ps) (hn : M.n = (ps.length : Int)) (f : Int) (hf : isFormB f = true) (i v : Nat) (hx : ps[i]? = some (v : Int)) (x : Edge) (er : Int) (M' : St)
    (hC : ∀ W, Keeps w W → Calls Try.prog 52 #[.pointer (some ⟨sb, 0, none⟩), .int .u8 f, .int .i64 0, .int .u16 (2 ^ i), .int .u16 0] W fun r w' => r = .returned (.tuple #[.agg #[.int .u8 x.tag, .int .u32 x.to], .int .u8 er]) ∧ Upd F W w' ∧ StoreRep (Grow F W w') w' sb M') :
    Calls Try.prog 27 #[.pointer (some ⟨sb, 0, none⟩), .pointer (some ⟨ob, 0, none⟩), .int .u8 f, .int .i64 (v : Int)] w (VarOut F w sb M' x er) := by
  have HM := Lib.hid (fun (W : World) (hW : Keeps w W) => buildMay_calls (h.keeps hW) (ho.keeps hW) hn f hf)
  have HV := Lib.hid (fun (W : World) (hW : Keeps w W) => store_vars (h.keeps hW))
  have HL := Lib.hid (fun (W : World) (hW : Keeps w W) => ordLevel_calls (ho.keeps hW) i v hx)
  have HC := Lib.hid hC
  have HLT := Lib.hid h.lt
  have hle := ho.le
  have hil := (List.getElem?_eq_some_iff.1 hx).1
  have hvr := ((permB_iff.1 ho.perm).2.1 _ (List.mem_of_getElem? hx)).2
  rw [hn] at HV
  obtain ⟨N, hN⟩ : ∃ N, N = ps.length := ⟨_, rfl⟩
  rw [← hN] at HV hle hil hvr
  have hvN : ¬ (N : Int) ≤ (v : Int) := by omega
  have hi15 : (i : Int) ≤ 15 := by omega
  have hp2 : (2 : Nat) ^ i ≤ 2 ^ 15 := Nat.pow_le_pow_right (by decide) (by omega)
  have hpc : ((2 ^ i : Nat) : Int) = 2 ^ i := by push_cast; rfl
  have e15 : (2 : Nat) ^ 15 = 32768 := rfl
  have hp3 : (0 : Int) < 2 ^ i := Int.pow_pos (by decide)
  have hp4 : (2 : Int) ^ i ≤ 32768 := by omega
  have hwr : (2 : Int) ^ i % 65536 = 2 ^ i := Int.emod_eq_of_lt (by omega) (by omega)
  clear h ho hn hf hx hC hN hp2 hpc e15
  go_enter Try.func27, Try.ntmps27
  go_wp2_with (first | (go_at_call 48; refine (HM.out _ (by (exact kp))).mono ?_; rintro e w1 ⟨rfl, hk1⟩) | (go_at_call 36; refine (HV.out _ (by (exact kp))).mono ?_; rintro e w1 ⟨rfl, rfl⟩) | (go_at_call 53; refine (HL.out _ (by (exact kp))).mono ?_; rintro e w1 ⟨rfl, rfl⟩) | fail)
  have hkw : Keeps w w1 := by (exact kp)
  have sz1 := hk1.size
  simp only [World.size_alloc] at sz1
  have r0 := hk1.cell (a := ⟨w.heap.size, 0, none⟩) (v := .int .u8 0) (by simp [go_sem])
  have r1 := hk1.cell (a := ⟨w.heap.size, 1, none⟩) (v := .int .u32 0) (by simp [go_sem])
  have rf := fun o : Nat => hk1.frz (a := ⟨w.heap.size, o, none⟩) (by simp) (by simp [go_sem])
  refine (HC.out _ hkw).mono ?_
  rintro r w3 ⟨rfl, hu, hS⟩
  have nR : ¬ F w.heap.size := fun hh => by have := HLT.out _ hh; omega
  replace r0 := hu.cellAt nR r0
  replace r1 := hu.cellAt nR r1
  replace rf := fun o : Nat => hu.frozen (a := ⟨w.heap.size, o, none⟩) (by show w.heap.size < _; omega) nR (rf o)
  have hout : ∀ w', Upd (fun j => j = w.heap.size) w3 w' → VarOut F w sb M' x er (.returned (.tuple #[.agg #[.int .u8 x.tag, .int .u32 x.to], .int .u8 er])) w' := fun w' hw' => by
    refine ⟨Grow F w1 w3, rfl, ((hkw.upd F).trans' hu).later hw' (fun i hi hh => by omega), hS.keep hw' (fun k hk hh => ?_), fun j hj => ?_⟩
    · subst hh
      rcases hk with q | q
      · exact nR q
      · omega
    · rcases hj with q | q
      · exact .inl q
      · exact .inr (by omega)
  have HOUT := Lib.hid hout
  clear hout hS hu hkw hk1
  go_wp2_with fail
  refine bodyPost_ret (v := .tuple #[.agg #[.int .u8 x.tag, .int .u32 x.to], .int .u8 er]) (by simp [results, Try.results27, go_sem, r0, r1]) rfl (HOUT.out _ ?_)
  (repeat (first | with_reducible exact Upd.refl _ _ | refine updR ?_ _ _ | with_reducible refine Upd.alloc ?_ _ | with_reducible refine Upd.drew ?_))

end Go.Proofs.Ytoeoehbpahodnaa
