/-
  Proved: the statement StorePlays, for every input.
-/
import Derived.Test.YtacanmmkhbdmlaaPOpens3
import Derived.Test.YtacanmmkhbdmlaaPPlayW
import Derived.Test.YtacanmmkhbdmlaaPSAlive
import Derived.Test.YtacanmmkhbdmlaaRows
namespace Go.Proofs.Ytacanmmkhbdmlaa
set_option linter.unusedSimpArgs false
set_option linter.unusedVariables false
set_option maxHeartbeats 600000
open Go.ChangeShapes Go.WideShapes Go.ChangeAt Go.RowKit


theorem play_calls {w0 w : World} {sb mb : Nat} {M : St} {L : List (Int × Rec)} (h : Both w0 w sb mb M L) (k : Int) (hk0 : 0 ≤ k) (hk1 : k ≤ 255) (r : Rec) (hr : r.ok) :
    Calls Try.prog 23 #[.pointer (some ⟨sb, 0, none⟩), .pointer (some ⟨mb, 0, none⟩), .agg #[.int .u8 k, .int .u8 r.form, .int .u8 r.top, .int .u8 r.bot, .int .u8 r.lo.tag, .int .u32 r.lo.to, .int .u8 r.hi.tag, .int .u32 r.hi.to]] w (Played w0 sb mb M) := by
  by_cases h4 : k % 7 = 4
  · exact play_has h k hk0 hk1 r hr h4
  · by_cases h5 : k % 7 = 5
    · exact play_get h k hk0 hk1 r hr h5
    · by_cases h6 : k % 7 = 6
      · exact play_sweep h k hk0 hk1 r hr h6
      · exact play_find h k hk0 hk1 r hr h4 h5 h6

theorem len_both {w0 w : World} {sb mb : Nat} {M : St} {L : List (Int × Rec)} (h : Both w0 w sb mb M L) : Calls Try.prog 20 #[.pointer (some ⟨sb, 0, none⟩)] w fun e w' => e = .returned (.int .i64 (L.length : Int)) ∧ w = w' := by
  obtain ⟨⟨F, G, q1, q2, _⟩, _⟩ := h
  rw [q2.len]
  exact store_len q1

theorem cell_both {w0 w : World} {sb mb : Nat} {M : St} {L : List (Int × Rec)} (h : Both w0 w sb mb M L) : ∃ a cap, w.cell? ⟨mb, 0, none⟩ = some (.slice a L.length cap) := by
  obtain ⟨⟨F, G, q1, q2, _⟩, _⟩ := h
  obtain ⟨a, cap, hc, _⟩ := q2.cell
  exact ⟨a, cap, hc⟩

/-- A store and the document's, both new. -/
theorem both_new {w w1 : World} {sb : Nat} {n room : Int} {F : Nat → Prop} (hk : Keeps w w1) (hF : ∀ k, F k → w.heap.size ≤ k) (hS : StoreRep F w1 sb (St.new n room)) (h0 : 0 ≤ n) (h1 : n ≤ 16) (h2 : 0 ≤ room) (h3 : room ≤ 1048576) :
    Both w (w1.alloc (.cells #[.slice none 0 0, .slice none 0 0, .int .u32 0, .int .i64 n, .int .i64 room] 46)) sb w1.heap.size (St.new n room) [] := by
  refine ⟨⟨F, fun k => k = w1.heap.size, hS.keeps ((Keeps.refl _).alloc _), ?_, ?_, hF, ?_⟩, hk.alloc _⟩
  · refine ⟨⟨.slice none 0 0, .slice none 0 0, heap_alloc_new w1 _, World.ownsRow_nil _ _ _ _, World.ownsRow_nil _ _ _ _, fun k hk => by simp [Value.ownBlock] at hk, fun k hk => by simp [Value.ownBlock] at hk⟩, rfl, ?_, St.new_wf h0 h1 h2 h3, ?_, ?_, ?_, ?_, ?_⟩
    · intro k hk; subst hk; simp
    · intro id r; simp [St.new, look_nil]
    · simp
    · simp [St.len, St.new]
    · simp [St.new]
    · intro p hp; simp at hp
  · intro k hk e
    subst e
    exact Nat.lt_irrefl _ (hS.lt _ hk)
  · intro k e
    subst e
    exact hk.size

set_option maxRecDepth 100000 in
theorem splays_out (n room : Int) (a : Option Addr) (len cap : Nat) (w : World) (h : 60 < len) :
    Calls Try.prog 4 #[.int .i64 n, .int .i64 room, .slice a len cap] w fun e w' => e = .returned (.bool true) ∧ Keeps w w' := by
  go_enter Try.func4, Try.ntmps4
  go_wp2_with (first | (go_at_call 22; refine (s_alive _).mono ?_; rintro e w1 ⟨rfl, hk⟩) | fail)
  go_ret
  exact ⟨rfl, by (repeat (first | with_reducible exact Keeps.refl _ | with_reducible assumption | with_reducible refine Keeps.alloc ?_ _ | with_reducible refine Keeps.drewN ?_ _ | with_reducible refine Keeps.drew ?_ | refine Keeps.setCell ?_ (by dsimp only; omega) _ | with_reducible refine Keeps.trans ?_ (by assumption)))⟩

set_option maxRecDepth 100000 in
theorem splays_var (n room : Int) (a : Option Addr) (len cap : Nat) (w : World) (hl : len ≤ 60) (h : n < 0 ∨ 16 < n) :
    Calls Try.prog 4 #[.int .i64 n, .int .i64 room, .slice a len cap] w fun e w' => e = .returned (.bool true) ∧ Keeps w w' := by
  rcases Int.lt_or_le n 0 with h0 | h0
  · go_enter Try.func4, Try.ntmps4
    go_wp2_with (first | (go_at_call 22; refine (s_alive _).mono ?_; rintro e w1 ⟨rfl, hk⟩) | (go_at_call 15; refine (store_new_var n room _ h).mono ?_; rintro e w2 ⟨rfl, hk2⟩) | fail)
    go_ret
    exact ⟨rfl, by (repeat (first | with_reducible exact Keeps.refl _ | with_reducible assumption | with_reducible refine Keeps.alloc ?_ _ | with_reducible refine Keeps.drewN ?_ _ | with_reducible refine Keeps.drew ?_ | refine Keeps.setCell ?_ (by dsimp only; omega) _ | with_reducible refine Keeps.trans ?_ (by assumption)))⟩
  · have h16 : 16 < n := by omega
    have h00 : ¬ n < 0 := by omega
    go_enter Try.func4, Try.ntmps4
    go_wp2_with (first | (go_at_call 22; refine (s_alive _).mono ?_; rintro e w1 ⟨rfl, hk⟩) | (go_at_call 15; refine (store_new_var n room _ h).mono ?_; rintro e w2 ⟨rfl, hk2⟩) | fail)
    go_ret
    exact ⟨rfl, by (repeat (first | with_reducible exact Keeps.refl _ | with_reducible assumption | with_reducible refine Keeps.alloc ?_ _ | with_reducible refine Keeps.drewN ?_ _ | with_reducible refine Keeps.drew ?_ | refine Keeps.setCell ?_ (by dsimp only; omega) _ | with_reducible refine Keeps.trans ?_ (by assumption)))⟩

set_option maxRecDepth 100000 in
theorem splays_arg (n room : Int) (a : Option Addr) (len cap : Nat) (w : World) (hl : len ≤ 60) (h0 : 0 ≤ n) (h1 : n ≤ 16) (hr : room < 0 ∨ 1048576 < room) :
    Calls Try.prog 4 #[.int .i64 n, .int .i64 room, .slice a len cap] w fun e w' => e = .returned (.bool true) ∧ Keeps w w' := by
  have HRM := Lib.hid hr
  have h00 : ¬ n < 0 := by omega
  have h01 : ¬ n > 16 := by omega
  rcases Int.lt_or_le room 0 with hr0 | hr0
  · clear hr
    go_enter Try.func4, Try.ntmps4
    go_wp2_with (first | (go_at_call 22; refine (s_alive _).mono ?_; rintro e w1 ⟨rfl, hk⟩) | (go_at_call 15; refine (store_new_arg n room _ h0 h1 HRM.out).mono ?_; rintro e w2 ⟨rfl, hk2⟩) | fail)
    go_ret
    exact ⟨rfl, by (repeat (first | with_reducible exact Keeps.refl _ | with_reducible assumption | with_reducible refine Keeps.alloc ?_ _ | with_reducible refine Keeps.drewN ?_ _ | with_reducible refine Keeps.drew ?_ | refine Keeps.setCell ?_ (by dsimp only; omega) _ | with_reducible refine Keeps.trans ?_ (by assumption)))⟩
  · have hr1 : 1048576 < room := by omega
    have hr2 : ¬ room < 0 := by omega
    clear hr
    go_enter Try.func4, Try.ntmps4
    go_wp2_with (first | (go_at_call 22; refine (s_alive _).mono ?_; rintro e w1 ⟨rfl, hk⟩) | (go_at_call 15; refine (store_new_arg n room _ h0 h1 HRM.out).mono ?_; rintro e w2 ⟨rfl, hk2⟩) | fail)
    go_ret
    exact ⟨rfl, by (repeat (first | with_reducible exact Keeps.refl _ | with_reducible assumption | with_reducible refine Keeps.alloc ?_ _ | with_reducible refine Keeps.drewN ?_ _ | with_reducible refine Keeps.drew ?_ | refine Keeps.setCell ?_ (by dsimp only; omega) _ | with_reducible refine Keeps.trans ?_ (by assumption)))⟩

set_option maxRecDepth 100000 in
set_option maxHeartbeats 1000000 in
theorem splays_in (n room : Int) (a : Option Addr) (len cap : Nat) (xs : List (Int × Rec)) (w : World) (hl : len ≤ 60) (h0 : 0 ≤ n) (h1 : n ≤ 16) (h2 : 0 ≤ room) (h3 : room ≤ 1048576) (hxs : IsActs w a len xs) :
    Calls Try.prog 4 #[.int .i64 n, .int .i64 room, .slice a len cap] w fun e w' => e = .returned (.bool true) ∧ Keeps w w' := by
  have HX := Lib.hid hxs
  clear hxs
  have h00 : ¬ n < 0 := by omega
  have h01 : ¬ n > 16 := by omega
  have hr0 : ¬ room < 0 := by omega
  have hr1 : ¬ room > 1048576 := by omega
  go_enter Try.func4, Try.ntmps4
  go_wp2_with (first | (go_at_call 22; refine (s_alive _).mono ?_; rintro e w1 ⟨rfl, hk⟩) | fail)
  refine (store_new n room _ h0 h1 h2 h3).mono ?_
  rintro e w2 ⟨sb, F, rfl, hk2, hF, hS⟩
  have hB0 := both_new (w := w) (hk.trans hk2) (fun k hk' => Nat.le_trans hk.size (hF k hk')) hS h0 h1 h2 h3
  have HB0 := Lib.hid hB0
  clear hB0 hS hF
  go_wp2_with fail
  go_loopg [10] len (fun gk i wr => ∃ (d : Nat) (M : St) (L : List (Int × Rec)), d + gk = len ∧ i = .int .i64 (d : Int) ∧ Both w wr sb w2.heap.size M L)
  case atStart => exact ⟨0, _, _, by omega, rfl, HB0.out⟩
  case round =>
    obtain ⟨d, M, L, hd, rfl, hB⟩ := hrel
    have HB := Lib.hid hB
    have hK := hB.keep
    obtain ⟨la, lcap, hcl⟩ := cell_both hB
    clear hB
    have hmr : w2.heap.size < wr.heap.size := lt_of_cell hcl
    by_cases hlt : d < len
    · obtain ⟨x, hx⟩ : ∃ x, xs[d]? = some x := ⟨_, List.getElem?_eq_getElem (by rw [HX.out.1]; exact hlt)⟩
      obtain ⟨hkx, hok, b, off, rfl, hc⟩ := HX.out.2 d x hx
      obtain ⟨kx, r⟩ := x
      have s0 : wr.cell? ⟨b, off + d * 8, none⟩ = some (.int .u8 kx) := hK.cell ((hc 0 (by omega)).trans rfl)
      have s1 : wr.cell? ⟨b, off + d * 8 + 1, none⟩ = some (.int .u8 r.form) := hK.cell ((hc 1 (by omega)).trans rfl)
      have s2 : wr.cell? ⟨b, off + d * 8 + 2, none⟩ = some (.int .u8 r.top) := hK.cell ((hc 2 (by omega)).trans rfl)
      have s3 : wr.cell? ⟨b, off + d * 8 + 3, none⟩ = some (.int .u8 r.bot) := hK.cell ((hc 3 (by omega)).trans rfl)
      have s4 : wr.cell? ⟨b, off + d * 8 + 4, none⟩ = some (.int .u8 r.lo.tag) := hK.cell ((hc 4 (by omega)).trans rfl)
      have s5 : wr.cell? ⟨b, off + d * 8 + 5, none⟩ = some (.int .u32 r.lo.to) := hK.cell ((hc 5 (by omega)).trans rfl)
      have s6 : wr.cell? ⟨b, off + d * 8 + 6, none⟩ = some (.int .u8 r.hi.tag) := hK.cell ((hc 6 (by omega)).trans rfl)
      have s7 : wr.cell? ⟨b, off + d * 8 + 7, none⟩ = some (.int .u32 r.hi.to) := hK.cell ((hc 7 (by omega)).trans rfl)
      have HP := Lib.hid (fun (W : World) (hW : Keeps wr W) => play_calls (HB.out.keeps hW) kx hkx.1 hkx.2 r hok)
      have hbw : b < wr.heap.size := lt_of_cell s0
      clear hc hx hK hkx hok
      go_wp2_with fail
      refine wp_region_head 6 #[true, true, true, true, true, true, false, false, false, false, false, false, false, false, false, false, false, false] (by kernel_rfl) (by kernel_rfl) ?_
      simp only [List.take_succ_cons, List.take_zero, List.drop_succ_cons, List.drop_zero]
      repeat still_step
      refine wpStill_nil ?_
      refine wpAny_ready (fuel := 11) (rs := [6]) (by kernel_rfl) (by decide) (AllReady.cons rfl (fun K hK => ?_) AllReady.nil)
      go_simp
      refine (HP.out _ (by (repeat (first | with_reducible exact Keeps.refl _ | with_reducible assumption | with_reducible refine Keeps.alloc ?_ _ | with_reducible refine Keeps.drewN ?_ _ | with_reducible refine Keeps.drew ?_ | refine Keeps.setCell ?_ (by dsimp only; omega) _ | with_reducible refine Keeps.trans ?_ (by assumption))))).mono ?_
      rintro e w3 ⟨rfl, M', L', hB3, hn3, hr3⟩
      refine hK _ _ ?_
      clear hK K
      obtain ⟨la3, lcap3, hc3⟩ := cell_both hB3
      have HB3 := Lib.hid hB3
      have HLN := Lib.hid (len_both hB3)
      have hm3 : w2.heap.size < w3.heap.size := lt_of_cell hc3
      clear hB3 hn3 hr3
      refine wpAny_ready (rs := [7]) (by kernel_rfl) (by decide) (AllReady.cons rfl (fun K hK => ?_) AllReady.nil)
      go_simp
      refine hK _ _ ?_
      clear hK K
      refine wpAny_ready (rs := [8]) (by kernel_rfl) (by decide) (AllReady.cons rfl (fun K hK => ?_) AllReady.nil)
      go_simp
      refine hK _ _ ?_
      clear hK K
      refine wpAny_take (i := 9) (v := ?_) rfl (by kernel_rfl) (by kernel_rfl) (by kernel_rfl) (fun _ _ _ h => h) (Or.inl ⟨by rfl, ?_⟩) ?_
      rotate_left
      · intro w; go_simp; try with_reducible rfl
      refine wpAny_take (i := 11) (v := ?_) rfl (by kernel_rfl) (by kernel_rfl) (by kernel_rfl) (fun _ _ _ h => h) (Or.inl ⟨by rfl, ?_⟩) ?_
      rotate_left
      · intro w; go_simp; try with_reducible rfl
      refine wpAny_take (i := 12) (v := ?_) rfl (by kernel_rfl) (by kernel_rfl) (by kernel_rfl) (fun _ _ _ h => h) (Or.inl ⟨by rfl, ?_⟩) ?_
      rotate_left
      · intro w; go_simp; try with_reducible rfl
      refine wpAny_take (i := 13) (v := ?_) rfl (by kernel_rfl) (by kernel_rfl) (by kernel_rfl) (fun _ _ _ h => h) (Or.inl ⟨by rfl, ?_⟩) ?_
      rotate_left
      · intro w; go_simp; try with_reducible rfl
      refine wpAny_ready (rs := [10, 14]) (by kernel_rfl) (by decide) (AllReady.cons rfl (fun K hK => ?_) (AllReady.cons rfl (fun K hK => ?_) AllReady.nil))
      · go_simp
        refine HLN.out.mono ?_
        rintro e w4 ⟨rfl, rfl⟩
        refine hK _ _ ?_
        clear hK K
        refine wpAny_ready (rs := [14]) (by kernel_rfl) (by decide) (AllReady.cons rfl (fun K hK => ?_) AllReady.nil)
        go_simp
        refine hK _ _ ?_
        clear hK K
        refine wpAny_ready (rs := [15]) (by kernel_rfl) (by decide) (AllReady.cons rfl (fun K hK => ?_) AllReady.nil)
        go_simp
        refine hK _ _ ?_
        clear hK K
        refine wpAny_ready (rs := [16]) (by kernel_rfl) (by decide) (AllReady.cons rfl (fun K hK => ?_) AllReady.nil)
        go_simp
        refine hK _ _ ?_
        clear hK K
        refine wpAny_ready (rs := [17]) (by kernel_rfl) (by decide) (AllReady.cons rfl (fun K hK => ?_) AllReady.nil)
        go_simp
        refine hK _ _ ?_
        clear hK K
        refine wpAny_done (by kernel_rfl) ?_ _
        go_wp2
        go_roundg (gk - 1)
        case rel => exact ⟨d + 1, M', L', by omega, by simp, HB3.out⟩
        case measure => omega
      · go_simp
        refine hK _ _ ?_
        clear hK K
        refine wpAny_take (i := 15) (v := ?_) rfl (by kernel_rfl) (by kernel_rfl) (by kernel_rfl) (fun _ _ _ h => h) (Or.inl ⟨by rfl, ?_⟩) ?_
        rotate_left
        · intro w; go_simp; try with_reducible rfl
        refine wpAny_ready (rs := [10]) (by kernel_rfl) (by decide) (AllReady.cons rfl (fun K hK => ?_) AllReady.nil)
        go_simp
        refine HLN.out.mono ?_
        rintro e w4 ⟨rfl, rfl⟩
        refine hK _ _ ?_
        clear hK K
        refine wpAny_ready (rs := [16]) (by kernel_rfl) (by decide) (AllReady.cons rfl (fun K hK => ?_) AllReady.nil)
        go_simp
        refine hK _ _ ?_
        clear hK K
        refine wpAny_ready (rs := [17]) (by kernel_rfl) (by decide) (AllReady.cons rfl (fun K hK => ?_) AllReady.nil)
        go_simp
        refine hK _ _ ?_
        clear hK K
        refine wpAny_done (by kernel_rfl) ?_ _
        go_wp2
        go_roundg (gk - 1)
        case rel => exact ⟨d + 1, M', L', by omega, by simp, HB3.out⟩
        case measure => omega
    · go_wp2_with (first | (go_at_call 24; refine (same_both HB.out).mono ?_; rintro e w3 ⟨rfl, hk3⟩) | fail)
      go_ret
      exact ⟨rfl, hK.trans hk3⟩

theorem storePlays_walk (n room : Int) (a : Option Addr) (len cap : Nat) (xs : List (Int × Rec)) (w : World) (_ : (Lit.int .i64 n).wf = true) (_ : (Lit.int .i64 room).wf = true) (hxs : IsActs w a len xs) :
    Calls Try.prog 4 #[.int .i64 n, .int .i64 room, .slice a len cap] w fun e w' => e = .returned (.bool true) ∧ Keeps w w' := by
  by_cases hl : 60 < len
  · exact splays_out n room a len cap w hl
  · by_cases hn : n < 0 ∨ 16 < n
    · exact splays_var n room a len cap w (by omega) hn
    · by_cases hr : room < 0 ∨ 1048576 < room
      · exact splays_arg n room a len cap w (by omega) (by omega) (by omega) hr
      · exact splays_in n room a len cap xs w (by omega) (by omega) (by omega) (by omega) (by omega) hxs

set_option maxRecDepth 100000 in
theorem storePlays_lifted (os : Os) (started : os.Started) (H : Type) (enc : TypeId × Value → H) :
    ReturnsInHanded {} Try.checked os 4 .any (Rows.storePlaysSpec.pre6 enc Try.prog Try.f4 Rows.storePlaysRow.domain false) (Rows.storePlaysSpec.post enc Try.prog Try.f4 false true false false) := by
  refine returnsInHanded_of_change (C := Try.checked) own started (by kernel_rfl) Try.func4
    (ChangeSpec.witness6 (enc := enc) (C := Try.checked) false ⟨#[], #[.int .i64 0, .int .i64 0, .slice none 0 0], []⟩ 12 (by kernel_rfl) (by kernel_rfl) (by kernel_rfl) (by kernel_rfl)) ?_
  intro W base args ds gs before hval0 hW hcnd _
  have hval : ∀ (j : Nat) t v, Try.f4.params[j]? = some t → args[j]? = some v → Value.okWide Try.prog W .any base t v := hval0
  have hW' := hW
  obtain ⟨p, q, hA0, hV, rfl, hfz, hnd⟩ := hW
  have hA : DataW.TrodAll enc Try.prog W 0 (fun _ => true) true Try.f4.params.toList args.toList ds p := hA0
  rw [Try.params4] at hA hval
  have hAk := hA
  obtain ⟨v0, vs0, d0, ds0, p0, q0, hargs, rfl, rfl, h0, r0⟩ := trodAll_cons hA
  obtain ⟨v1, vs1, d1, ds1, p1, q1, rfl, rfl, rfl, h1, r1⟩ := trodAll_cons r0
  obtain ⟨v2, vs2, d2, ds2, p2, q2, rfl, rfl, rfl, h2, r2⟩ := trodAll_cons r1
  obtain ⟨rfl, rfl, rfl⟩ := trodAll_nil r2
  obtain rfl : args = #[v0, v1, v2] := by cases args; simp_all
  obtain ⟨rfl, rfl⟩ := trodVars_none hV
  obtain ⟨a0, rfl, rfl, rfl, w0⟩ := open_int Try.underlying3 (hval 0 3 v0 rfl rfl) h0
  obtain ⟨a1, rfl, rfl, rfl, w1⟩ := open_int Try.underlying3 (hval 1 3 v1 rfl rfl) h1
  obtain ⟨a2, len2, cap2, rfl⟩ := okWide_slice Try.underlying41 (hval 2 41 v2 rfl rfl)
  obtain ⟨rs2, w2⟩ := open_acts h2
  clear hA0 hval0
  refine (storePlays_walk a0 a1 a2 len2 cap2 rs2 W w0 w1 w2).mono fun e W' ⟨he, bel⟩ => ?_
  subst he
  exact ⟨_, rfl, _, _, _, [], _, [], hW', trodAll_mk1 (shut_bool Try.underlying4 _), trodAll_below laidOut bel _ _ _ _ (by kernel_rfl) hAk, rfl, Below.frame bel _, fun h => by cases h⟩

theorem storePlays_over : Rows.storePlaysRow.holds Try.pinned (OpenSpec.ofChange Rows.storePlaysSpec) :=
  OpenClaim.holds_of_wide 4 Try.f4 rfl rfl rfl rfl rfl rfl rfl ⟨rfl, rfl, rfl, rfl, rfl⟩ rfl rfl rfl rfl rfl (by kernel_rfl) Try.func4 (by kernel_rfl)
    (of_decide_eq_true (by kernel_rfl)) (by unfold Func.isWrapper; first | (rw [if_pos (by decide +kernel)]; kernel_rfl) | (rw [if_neg (by decide +kernel)]; exact ⟨rfl, rfl⟩))
    (fun os started H enc _ => storePlays_lifted os started H enc)

theorem storePlays_proved : Rows.StorePlaysSaid := storePlays_over

end Go.Proofs.Ytacanmmkhbdmlaa
