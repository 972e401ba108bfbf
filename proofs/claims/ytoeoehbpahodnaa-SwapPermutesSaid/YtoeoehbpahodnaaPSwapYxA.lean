/-
  The document's tables under an order: ramageref09.Down, ramageref18.Table; ramageref26.May, Moved.
-/
import Derived.Test.YtoeoehbpahodnaaPSwapG
import Derived.Test.YtoeoehbpahodnaaPSwapHxA
namespace Go.Proofs.Ytoeoehbpahodnaa
set_option linter.unusedSimpArgs false
set_option linter.unusedVariables false
set_option maxHeartbeats 600000
open Go.RowKit

theorem bitI_vb (X : Nat) (v : Int) : bitI (bitB (X : Int) v) = (vb X v : Int) := by
  unfold vb
  cases bitB (X : Int) v <;> rfl

set_option maxRecDepth 100000 in
theorem down_calls (a : Option Addr) (cap : Nat) (ps : List Int) (w : World) (h : IntsAt w a ps) (hl : ps.length ≤ 16) (hr : ∀ x ∈ ps, 0 ≤ x ∧ x ≤ 16) (X : Nat) (hX : X ≤ 65535) :
    Calls Try.prog 76 #[.slice a ps.length cap, .int .i64 (X : Int)] w fun e w' => e = .returned (.int .i64 (dnN X ps : Int)) ∧ w = w' := by
  obtain ⟨N, hN⟩ : ∃ N, N = ps.length := ⟨_, rfl⟩
  rw [← hN] at hl ⊢
  have H := Lib.hid h
  have HN := Lib.hid hN
  have HR := Lib.hid hr
  clear h hN hr
  go_enter Try.func76, Try.ntmps76
  go_wp2
  go_loopg [5, 6] N (fun gk s5 s6 wr => ∃ d : Nat, s5 = .int .i64 (dnN X (ps.take d) : Int) ∧ s6 = .int .i64 (d : Int) ∧ d + gk = N ∧ w = wr)
  case atStart => exact ⟨0, by simp [dnN], rfl, by omega, rfl⟩
  case round =>
    obtain ⟨d, rfl, rfl, hd, rfl⟩ := hrel
    obtain ⟨y, hy⟩ : ∃ y, y = dnN X (ps.take d) := ⟨_, rfl⟩
    have hy16 : y < 65536 := by
      have h1 := dnN_lt X (ps.take d)
      have h2 : 2 ^ (ps.take d).length ≤ 2 ^ 16 := Nat.pow_le_pow_right (by decide) (by rw [List.length_take]; omega)
      have e16 : (2 : Nat) ^ 16 = 65536 := rfl
      omega
    rw [← hy]
    have HY := Lib.hid hy
    clear hy
    by_cases hlt : d < N
    · obtain ⟨x, hx⟩ : ∃ b, ps[d]? = some b := ⟨_, List.getElem?_eq_getElem (by rw [← HN.out]; exact hlt)⟩
      obtain ⟨b, off, rfl, c0⟩ := H.out d x hx
      have hxr := HR.out x (List.mem_of_getElem? hx)
      have htk := take_snoc hx
      have hv := fun (W : World) => value_calls (X : Int) x W (by omega) (by omega) hxr.1 hxr.2
      rw [bitI_vb] at hv
      have hvb := vb_le X x
      obtain ⟨u, hu⟩ : ∃ u, u = vb X x := ⟨_, rfl⟩
      rw [← hu] at hv hvb
      have HV := Lib.hid hv
      have hnext : Hid (dnN X (ps.take (d + 1)) = 2 * y + u) := Lib.hid (by rw [htk, dnN_snoc, ← HY.out, ← hu])
      clear hx htk hv hu hxr
      go_wp2_with (first | (go_at_call 94; refine (HV.out _).mono ?_; rintro e w1 ⟨rfl, rfl⟩) | fail)
      go_roundg (gk - 1)
      case rel => exact ⟨d + 1, by rw [hnext.out]; push_cast; rfl, by simp, by omega, rfl⟩
      case measure => omega
    · have hd2 : d = N := by omega
      have hres : Hid (dnN X ps = y) := Lib.hid (by rw [HY.out, List.take_of_length_le (by rw [← HN.out]; omega)])
      clear hd2
      go_wp2_with fail
      go_ret
      exact ⟨by rw [hres.out]; rfl, rfl⟩

set_option maxRecDepth 100000 in
set_option maxHeartbeats 2000000 in
theorem table18_calls {F : Nat → Prop} {w : World} {mb : Nat} {M : St} {L : List (Int × Rec)} (h : RefRep F w mb M L) (a : Option Addr) (cap : Nat) (ps : List Int) (hI : IntsAt w a ps) (hn : M.n = (ps.length : Int)) (hp : permB ps = true) (f : Int) (hf : 1 ≤ f ∧ f ≤ 5) (e : Edge) (he : e.ok) (hl : M.leads f e 0 = true) :
    Calls Try.prog 46 #[.pointer (some ⟨mb, 0, none⟩), .slice a ps.length cap, .int .u8 f, .agg #[.int .u8 e.tag, .int .u32 e.to]] w fun r w' => ∃ B, r = .returned (.slice (some ⟨B, 0, none⟩) (2 ^ ps.length) (2 ^ ps.length)) ∧ w.heap.size ≤ B ∧ BoolsAt w' B (tabP M ps f e) ∧ Keeps w w' := by
  obtain ⟨h16, hrng, -⟩ := permB_iff.1 hp
  have hT := fun (W : World) (hW : Keeps w W) => table_calls (h.keeps hW) f hf e he ps.length 0 (by rw [hn]; simp) hl
  have hDn := fun (X : Nat) (hX : X ≤ 65535) (W : World) (hW : Keeps w W) => down_calls a cap ps W (hI.keeps hW) h16 (fun x hx => by have := hrng x hx; omega) X hX
  have hat := fun (X : Nat) => tabE_dnN (M := M) (f := f) (e := e) hn X
  have hlt2 := fun (X : Nat) => dnN_lt X ps
  have hget : ∀ X, X < 2 ^ ps.length → (tabP M ps f e)[X]? = some (tv M f (upN X ps : Int) 0 e) := fun X hX => tabP_get hX
  have hlenP := tabP_len M ps f e
  have hlenE : (tabE M f e 0).length = 2 ^ ps.length := by rw [tabE_len]; congr 1; omega
  have hp2 : 2 ^ ps.length ≤ 2 ^ 16 := Nat.pow_le_pow_right (by decide) h16
  have e16 : (2 : Nat) ^ 16 = 65536 := rfl
  rw [e16] at hp2
  obtain ⟨tp, htp⟩ : ∃ tp, tp = tabP M ps f e := ⟨_, rfl⟩
  obtain ⟨te, hte⟩ : ∃ te, te = tabE M f e 0 := ⟨_, rfl⟩
  obtain ⟨p, hpp⟩ : ∃ p, p = 2 ^ ps.length := ⟨_, rfl⟩
  obtain ⟨n, hnn⟩ : ∃ n, n = ps.length := ⟨_, rfl⟩
  change ∀ W, Keeps w W → Calls Try.prog 75 #[.pointer (some ⟨mb, 0, none⟩), .int .u8 f, .agg #[.int .u8 e.tag, .int .u32 e.to], .int .i64 0] W fun r w' => ∃ B, r = .returned (.slice (some ⟨B, 0, none⟩) (2 ^ ps.length) (2 ^ ps.length)) ∧ W.heap.size ≤ B ∧ BoolsAt w' B (tabE M f e 0) ∧ Keeps W w' at hT
  rw [← hte, ← hpp] at hT
  rw [← htp] at hget hlenP ⊢
  rw [← hte] at hlenE
  simp only [← hte] at hat
  simp only [← hpp] at hlt2 hget hlenP hlenE hp2 ⊢
  simp only [← hnn] at hDn ⊢
  have HT := Lib.hid hT
  have HDN := Lib.hid hDn
  have HAT := Lib.hid hat
  have HLT := Lib.hid hlt2
  have HGET := Lib.hid hget
  have HLP := Lib.hid hlenP
  have HLE := Lib.hid hlenE
  obtain ⟨j0, hj, jz0, jz1, jz2⟩ := info_parts (show (Try.prog.info? 4).map (fun i => (i.zero, i.size, i.bytes)) = some (some (.bool false), 1, 1) by kernel_rfl)
  clear hT hDn hat hlt2 hget hlenP hlenE hI h hn hp hl he hrng htp hte hpp hnn e16 h16
  go_enter Try.func46, Try.ntmps46
  go_wp2_with fail
  refine (HT.out _ ((Keeps.refl _).alloc _)).mono ?_
  rintro r w1 ⟨B0, rfl, hB0, hT0, hk1⟩
  have hkw1 : Keeps w w1 := ((Keeps.refl _).alloc _).trans hk1
  have HT0 := Lib.hid hT0
  have lT0 := hT0.lt
  have HKW1 := Lib.hid hkw1
  clear hT0 hkw1 hk1 HT
  go_wp2_with (first
    | (at_make; refine wpList_make_full _ rfl _ _ 58 rfl w1.heap.size 4 j0 (.bool false) 1 Try.underlying58 hj jz0 jz1 .i64 .i64 (p : Int) (p : Int) p rfl rfl rfl rfl (by rw [jz2]; omega) (by unfold maxLen; omega) (by simp) ?_; intro w2 hown2 hg2)
    | fail)
  have HB1 := Lib.hid (bools_made hown2)
  have hk2 : Keeps w1 w2 := ⟨hg2.os, hg2.tape, hg2.output, hg2.size, fun i hi => hg2.block i hi (by simp)⟩
  have HK2 := Lib.hid (HKW1.out.trans hk2)
  have HT2 := Lib.hid (HT0.out.keep (Keeps.upd hk2 (fun _ => False)) (fun h => h))
  have lB1 := HB1.out.lt
  have sz1 := HKW1.out.size
  clear hown2 hg2 hk2 HT0 HKW1
  go_loopg [11] p (fun gk s11 wr => ∃ (y : Nat) (bs : List Bool), y + gk = p ∧ s11 = .int .i64 (y : Int) ∧ bs.length = p ∧ BoolsAt wr w1.heap.size bs ∧ (∀ i, i < y → bs[i]? = tp[i]?) ∧ Upd (fun j => j = w1.heap.size) w2 wr)
  case atStart => exact ⟨0, _, by omega, rfl, by simp, HB1.out, fun i hi => by omega, Upd.refl _ _⟩
  case round =>
    obtain ⟨y, bs, hy, rfl, hbl, hB, hag, hu⟩ := hrel
    have HB := Lib.hid hB
    have HBL := Lib.hid hbl
    have HAG := Lib.hid hag
    have HU := Lib.hid hu
    have HKR := Lib.hid (HK2.out.new hu (fun k hk => by omega))
    have HTR := Lib.hid (HT2.out.keep hu (fun hh => by omega))
    clear hB hbl hag hu
    by_cases hlt : y < p
    · have HDY := Lib.hid (HDN.out y (by omega) wr HKR.out)
      have hd2 := HLT.out y
      have hval := HAT.out y
      have hgp := HGET.out y hlt
      obtain ⟨D, hD⟩ : ∃ D, D = dnN y ps := ⟨_, rfl⟩
      obtain ⟨V, hV⟩ : ∃ V, V = tv M f (upN y ps : Int) 0 e := ⟨_, rfl⟩
      rw [← hD] at HDY hd2 hval
      rw [← hV] at hval hgp
      have c0 := HTR.out.cell hval
      obtain ⟨z, hz⟩ : ∃ z, bs[y]? = some z := ⟨_, List.getElem?_eq_getElem (by rw [HBL.out]; exact hlt)⟩
      have c1 := HB.out.cell hz
      have f1 := HB.out.frozen y
      have HGP := Lib.hid hgp
      have hDp : D < p := hd2
      clear hval hgp hz hD hV hd2
      go_wp2_with (first | (go_at_call 76; refine HDY.out.mono ?_; rintro e5 w5 ⟨rfl, rfl⟩) | fail)
      go_roundg (gk - 1)
      case rel =>
        refine ⟨y + 1, bs.set y V, by omega, by simp, by rw [List.length_set, HBL.out], HB.out.set y V, fun i hi => ?_, HU.out.setCell (.inl rfl) _⟩
        by_cases hiy : i = y
        · subst hiy
          rw [List.getElem?_set_self (by rw [HBL.out]; exact hlt), HGP.out]
        · rw [List.getElem?_set_ne (fun h => hiy h.symm)]
          exact HAG.out i (by omega)
      case measure => omega
    · have hbs : bs = tp := by
        apply List.ext_getElem?
        intro i
        by_cases hi : i < p
        · exact HAG.out i (by omega)
        · rw [List.getElem?_eq_none (by rw [HBL.out]; omega), List.getElem?_eq_none (by rw [HLP.out]; omega)]
      have hres : Hid (BoolsAt wr w1.heap.size tp) := Lib.hid (by rw [← hbs]; exact HB.out)
      clear hbs
      go_wp2_with fail
      go_ret
      exact ⟨w1.heap.size, rfl, by omega, hres.out, HKR.out⟩

end Go.Proofs.Ytoeoehbpahodnaa

namespace Go.Proofs.Ytoeoehbpahodnaa
set_option linter.unusedSimpArgs false
set_option linter.unusedVariables false
set_option maxHeartbeats 600000
open Go.RowKit

set_option maxRecDepth 100000 in
theorem steps_bad (a1 a2 : Option Addr) (cap1 cap2 : Nat) (ps qs : List Int) (w : World) (h1 : IntsAt w a1 ps) (h2 : IntsAt w a2 qs) (hp : permB ps = true) (hl1 : ps.length ≤ 1048576) (hl2 : qs.length ≤ 1048576) (h : ¬ (ps.length = qs.length ∧ permB qs = true)) :
    Calls Try.prog 51 #[.slice a1 ps.length cap1, .slice a2 qs.length cap2] w fun e w' => e = .returned (.tuple #[.slice none 0 0, .bool false]) ∧ Keeps w w' := by
  have hR1 := fun W (hW : Keeps w W) => permRight_calls a1 cap1 ps W (h1.keeps hW) hl1
  have hR2 := fun W (hW : Keeps w W) => permRight_calls a2 cap2 qs W (h2.keeps hW) hl2
  rw [hp] at hR1
  obtain ⟨K, hK⟩ : ∃ K, K = ps.length := ⟨_, rfl⟩
  obtain ⟨N, hN⟩ : ∃ N, N = qs.length := ⟨_, rfl⟩
  cases hq : permB qs with
  | false =>
    rw [hq] at hR2
    rw [← hK] at hR1 ⊢
    rw [← hN] at hR2 ⊢
    have HR1 := Lib.hid hR1
    have HR2 := Lib.hid hR2
    clear hR1 hR2 h h1 h2 hl1 hl2 hp hq hN hK
    go_enter Try.func51, Try.ntmps51
    go_wp2_with fail
    refine (HR1.out _ (by (exact kp))).mono ?_
    rintro e w1 ⟨rfl, rfl⟩
    go_wp2_with fail
    refine (HR2.out _ (by (exact kp))).mono ?_
    rintro e w2 ⟨rfl, rfl⟩
    go_wp2_with fail
    go_ret2
    exact ⟨rfl, by (exact kp)⟩
  | true =>
    have hne : ¬ K = N := fun e => h ⟨by omega, hq⟩
    rw [hq] at hR2
    rw [← hK] at hR1 ⊢
    rw [← hN] at hR2 ⊢
    have HR1 := Lib.hid hR1
    have HR2 := Lib.hid hR2
    have HN := Lib.hid hN
    have HK := Lib.hid hK
    clear hR1 hR2 h h1 h2 hp hq hN hK
    have hl1' : K ≤ 1048576 := by rw [HK.out]; exact hl1
    have hl2' : N ≤ 1048576 := by rw [HN.out]; exact hl2
    clear hl1 hl2
    go_enter Try.func51, Try.ntmps51
    go_wp2_with fail
    refine (HR1.out _ (by (exact kp))).mono ?_
    rintro e w1 ⟨rfl, rfl⟩
    go_wp2_with fail
    refine (HR2.out _ (by (exact kp))).mono ?_
    rintro e w2 ⟨rfl, rfl⟩
    go_wp2_with fail
    go_ret2
    exact ⟨rfl, by (exact kp)⟩

set_option maxRecDepth 100000 in
theorem index_calls (g cap : Nat) (ps : List Int) (x : Int) (w : World) (h : RowI w g ps) (hl : ps.length ≤ 1048576) (hx : x ∈ ps) :
    Calls Try.prog 84 #[.slice (some ⟨g, 0, none⟩) ps.length cap, .int .i64 x] w fun e w' => (∃ k : Nat, e = .returned (.int .i64 (k : Int)) ∧ ps[k]? = some x) ∧ w = w' := by
  obtain ⟨N, hN⟩ : ∃ N, N = ps.length := ⟨_, rfl⟩
  rw [← hN] at hl ⊢
  have H := Lib.hid h
  have HN := Lib.hid hN
  have HX := Lib.hid hx
  clear h hN hx
  go_enter Try.func84, Try.ntmps84
  go_wp2_with fail
  go_loopg [5, 8] N (fun gk s5 s8 wr => ∃ d : Nat, s8 = .int .i64 (d : Int) ∧ d + gk = N ∧ (∀ j, j < d → ps[j]? ≠ some x) ∧ w = wr)
  case atStart => exact ⟨0, rfl, by omega, fun j hj => by omega, rfl⟩
  case round =>
    obtain ⟨d, rfl, hd, hne, rfl⟩ := hrel
    have HNE := Lib.hid hne
    clear hne
    by_cases hlt : d < N
    · obtain ⟨y, hy⟩ : ∃ b, ps[d]? = some b := ⟨_, List.getElem?_eq_getElem (by rw [← HN.out]; exact hlt)⟩
      have hc := H.out.cell hy
      have HY := Lib.hid hy
      clear hy
      by_cases he : x = y
      · subst he
        go_wp2_with fail
        go_ret
        exact ⟨⟨d, rfl, HY.out⟩, rfl⟩
      · go_wp2_with fail
        go_roundg (gk - 1)
        case rel =>
          refine ⟨d + 1, by simp, by omega, fun j hj hh => ?_, rfl⟩
          by_cases hjd : j = d
          · subst hjd
            rw [HY.out] at hh
            exact he (Option.some.inj hh).symm
          · exact HNE.out j (by omega) hh
        case measure => omega
    · exfalso
      obtain ⟨j, hj⟩ := List.mem_iff_getElem?.1 HX.out
      have := (List.getElem?_eq_some_iff.1 hj).1
      exact HNE.out j (by have := HN.out; omega) hj

theorem ownsRow_low {w : World} {lo lo2 : Nat} {e : TypeId} {size : Nat} {v : Value} {n : Nat} {xs : List Value} (hl : lo2 ≤ lo) (h : w.ownsRow lo e size v n xs) : w.ownsRow lo2 e size v n xs := by
  refine ⟨h.1, ?_⟩
  rcases h.2 with hn | ⟨g, cap, cur, e0, hb, rest⟩
  · exact .inl hn
  · exact .inr ⟨g, cap, cur, e0, Nat.le_trans hl hb, rest⟩

set_option maxRecDepth 100000 in
set_option maxHeartbeats 2000000 in
theorem steps_calls (a1 a2 : Option Addr) (cap1 cap2 : Nat) (ps qs : List Int) (w : World) (h1 : IntsAt w a1 ps) (h2 : IntsAt w a2 qs) (hp : permB ps = true) (hq : permB qs = true) (hl : ps.length = qs.length) :
    Calls Try.prog 51 #[.slice a1 ps.length cap1, .slice a2 qs.length cap2] w fun e w' => ∃ (ss : List Nat) (a' : Option Addr) (cap' : Nat), e = .returned (.tuple #[.slice a' ss.length cap', .bool true]) ∧
      w'.ownsRow w.heap.size 3 1 (.slice a' ss.length cap') ss.length (ss.map (fun s : Nat => Value.int .i64 (s : Int))) ∧ runL ps ss = qs ∧ (∀ s ∈ ss, s + 1 < ps.length) ∧ ss.length ≤ ps.length * ps.length ∧ Keeps w w' := by
  have h16 := (permB_iff.1 hp).1
  have hR1 := fun W (hW : Keeps w W) => permRight_calls a1 cap1 ps W (h1.keeps hW) (by omega)
  have hR2 := fun W (hW : Keeps w W) => permRight_calls a2 cap2 qs W (h2.keeps hW) (by omega)
  have hCL := fun W (hW : Keeps w W) => clone_calls a1 cap1 ps W (h1.keeps hW) (by omega)
  obtain ⟨i0, hi, hz0, hz1, hz2⟩ := info_parts info_int
  obtain ⟨N, hN⟩ : ∃ N, N = ps.length := ⟨_, rfl⟩
  have hidx := fun (g cap : Nat) (ss : List Nat) (x : Int) (W : World) (hr : RowI W g (runL ps ss)) (hx : x ∈ runL ps ss) => by
    have := index_calls g cap (runL ps ss) x W hr (by rw [runL_len]; omega) hx
    rw [runL_len, ← hN] at this
    exact this
  rw [hp, ← hN] at hR1
  rw [hq, ← hl, ← hN] at hR2
  rw [← hN] at hCL
  rw [← hl, ← hN]
  rw [← hN] at h16
  have HR1 := Lib.hid hR1
  have HR2 := Lib.hid hR2
  have HCL := Lib.hid hCL
  have HIX := Lib.hid hidx
  have HN := Lib.hid hN
  have HL := Lib.hid hl
  have HP := Lib.hid hp
  have HQ := Lib.hid hq
  have H2 := Lib.hid h2
  clear hR1 hR2 hCL hidx hN hl hp hq h1 h2
  go_enter Try.func51, Try.ntmps51
  go_wp2_with fail
  refine (HR1.out _ (by (exact kp))).mono ?_
  rintro e w1 ⟨rfl, rfl⟩
  go_wp2_with fail
  refine (HR2.out _ (by (exact kp))).mono ?_
  rintro e w2 ⟨rfl, rfl⟩
  go_wp2_with fail
  refine (HCL.out _ (by (exact kp))).mono ?_
  rintro e w3 ⟨gaddr, gcap, rfl, hrv, hk3⟩
  have HRV := Lib.hid hrv
  clear hrv
  go_wp2_with fail
  go_loopg [7, 8, 9, 10, 30] N (fun gk s7 s8 s9 s10 s30 wr => ∃ (d : Nat) (ss : List Nat) (la : Option Addr) (lcap : Nat), s30 = .int .i64 (d : Int) ∧ s7 = .slice la ss.length lcap ∧ d + gk = N ∧ StepsAt ps qs d ss ∧ RowV w.heap.size wr gaddr (runL ps ss) ∧ wr.ownsRow w3.heap.size 3 1 (.slice la ss.length lcap) ss.length (ss.map (fun s : Nat => Value.int .i64 (s : Int))) ∧ Keeps w wr ∧ w3.heap.size ≤ wr.heap.size)
  case atStart => exact ⟨0, [], none, 0, rfl, rfl, by omega, StepsAt.start ps qs, HRV.out, World.ownsRow_nil _ _ _ _, hk3, Nat.le_refl _⟩
  case round =>
    obtain ⟨d, ss, la, lcap, rfl, rfl, hd, hst, hrow, hown, hk, hsz⟩ := hrel
    have HST := Lib.hid hst
    have HROW := Lib.hid hrow
    have HO := Lib.hid hown
    clear hst hrow hown
    by_cases hlt : d < N
    · obtain ⟨x, hx⟩ : ∃ b, qs[d]? = some b := ⟨_, List.getElem?_eq_getElem (by rw [← HL.out, ← HN.out]; exact hlt)⟩
      obtain ⟨b, off, rfl, hc0⟩ := H2.out d x hx
      have hc := hk.cell hc0
      have hxm := HST.out.has HP.out HQ.out HL.out hx
      have HX := Lib.hid hx
      obtain ⟨g, rfl, hgl, hgr⟩ := HROW.out (fun e => by rw [e] at hxm; cases hxm)
      have hgw : g < w3.heap.size := by
        obtain ⟨g', e', _, hr'⟩ := HRV.out (fun e => by rw [e] at HN; have := HN.out; simp at this; omega)
        cases e'
        exact hr'.lt
      have hix := HIX.out g gcap ss x wr hgr hxm
      have HG := Lib.hid hgr
      have HIX2 := Lib.hid hix
      clear hix hxm hc0 hx hgr
      go_wp2_with fail
      refine HIX2.out.mono ?_
      rintro e w4 ⟨⟨k, rfl, hkk⟩, rfl⟩
      have hin := HST.out.low HQ.out HX.out hkk
      have hklt := hin.lt
      have hlow := hin.low
      have HIN := Lib.hid hin
      clear hkk hin
      rw [← HN.out] at hklt
      obtain ⟨g0, hg0⟩ : ∃ g0, g0 = gk := ⟨_, rfl⟩
      rw [← hg0] at hd
      go_wp2_with fail
      go_loopg [7, 10] (k - d) (fun gk2 s7 s10 wr2 => ∃ (p : Nat) (ss2 : List Nat) (lb : Option Addr) (lcap2 : Nat), s10 = .int .i64 ((p : Int) - 1) ∧ s7 = .slice lb ss2.length lcap2 ∧ p = d + gk2 ∧ p < N ∧ StepsIn ps qs d p x ss2 ∧ RowI wr2 g (runL ps ss2) ∧ wr2.ownsRow w3.heap.size 3 1 (.slice lb ss2.length lcap2) ss2.length (ss2.map (fun s : Nat => Value.int .i64 (s : Int))) ∧ Keeps w wr2 ∧ w3.heap.size ≤ wr2.heap.size)
      case atStart => exact ⟨k, ss, la, lcap, rfl, rfl, by omega, hklt, HIN.out, HG.out, HO.out, hk, hsz⟩
      case round =>
        obtain ⟨p, ss2, lb, lcap2, rfl, rfl, hp, hpn, hin2, hrow2, hown2, hk2, hsz2⟩ := hrel
        have HIN2 := Lib.hid hin2
        have HROW2 := Lib.hid hrow2
        have HO2 := Lib.hid hown2
        clear hin2 hrow2 hown2
        have HPG := Lib.hid hp
        clear hp
        by_cases hgt : d < p
        · obtain ⟨q, rfl⟩ : ∃ q, p = q + 1 := ⟨p - 1, by omega⟩
          rw [show ((q + 1 : Nat) : Int) - 1 = (q : Int) from by omega]
          have hge : d ≤ q := by omega
          have hql : q + 1 < (runL ps ss2).length := by rw [runL_len, ← HN.out]; exact hpn
          obtain ⟨y, hy⟩ : ∃ b, (runL ps ss2)[q]? = some b := ⟨_, List.getElem?_eq_getElem (by omega)⟩
          have hx2 := HIN2.out.here
          have ca := HROW2.out.cell hy
          have cb := HROW2.out.cell hx2
          have HY := Lib.hid hy
          have fa := HROW2.out.frozen q
          have fb := HROW2.out.frozen (q + 1)
          have hgl2 : g < wr.heap.size := HROW2.out.lt
          clear hy hx2
          have hU5 : Upd (fun j => j = g) wr ((wr.setCell ⟨g, q, none⟩ (.int .i64 x)).setCell ⟨g, q + 1, none⟩ (.int .i64 y)) := Upd.setCell (F := fun j => j = g) (p := ⟨g, q + 1, none⟩) (Upd.setCell (F := fun j => j = g) (p := ⟨g, q, none⟩) (Upd.refl _ _) (.inl rfl) _) (.inl rfl) _
          have hO5 := hU5.owns (fun k hk e => by
            rcases HO2.out.2 with ⟨e0, _⟩ | ⟨g', cap', cur, e0, hbg, _⟩
            · rw [e0] at hk; simp [Value.ownBlock] at hk
            · rw [e0] at hk; simp [Value.ownBlock] at hk; omega) HO2.out
          have hR5 : RowI ((wr.setCell ⟨g, q, none⟩ (.int .i64 x)).setCell ⟨g, q + 1, none⟩ (.int .i64 y)) g (runL ps (ss2 ++ [q])) := by
            rw [runL_snoc]
            unfold stepL
            have e1 : (runL ps ss2).getD (q + 1) 0 = x := by rw [List.getD_eq_getElem?_getD, HIN2.out.here]; rfl
            have e2 : (runL ps ss2).getD q 0 = y := by rw [List.getD_eq_getElem?_getD, HY.out]; rfl
            rw [e1, e2]
            exact (HROW2.out.set q x (by omega)).set (q + 1) y (by simpa using hql)
          have hfew := HIN2.out.few
          have hNN : ps.length * ps.length ≤ 16 * 16 := Nat.mul_le_mul (by rw [← HN.out]; exact h16) (by rw [← HN.out]; exact h16)
          have hdn : d * ps.length + ps.length ≤ ps.length * ps.length := by
            have := Nat.mul_le_mul_right ps.length (show d + 1 ≤ ps.length by rw [← HN.out]; omega)
            rwa [Nat.add_mul, Nat.one_mul] at this
          have hl256 : ss2.length + 1 ≤ 256 := by omega
          have q1 : ss2.length + 1 ≤ maxLen := by unfold maxLen; omega
          have q2 : (ss2.length + 1) * 8 ≤ 140737488355328 := by omega
          have HO5 := Lib.hid hO5
          have HR5 := Lib.hid hR5
          have HU5 := Lib.hid hU5
          clear hO5 hR5 hU5 hfew hNN hdn hl256
          have hw0 := hk3.size
          go_upto_region 11 with fail
          go_cut [] (fun wx => Keeps ((wr.setCell ⟨g, q, none⟩ (.int .i64 x)).setCell ⟨g, q + 1, none⟩ (.int .i64 y)) wx)
          case first =>
            go_region
            all_goals go_wp2_with fail
            all_goals go_meet
            all_goals (exact kp)
          case rest =>
            obtain ⟨W6, hW6⟩ : ∃ W, W = wc := ⟨_, rfl⟩
            rw [← hW6] at hcut ⊢
            clear hW6
            have hO6 := (hcut.upd (fun _ => False)).owns (fun _ _ h => h) HO5.out
            have hR6 := HR5.out.keeps hcut
            have hU6 := HU5.out.trans' (hcut.upd _)
            have hs6 := hU6.size
            have hk6 : Keeps w W6 := hk2.new hU6 (fun k e => by subst e; exact hgl)
            have HR6 := Lib.hid hR6
            have HO6 := Lib.hid hO6
            clear hO6 hR6 hU6 hcut ca cb fa fb
            go_wp2_with (first
              | (at_builtin; refine wpList_append_own _ rfl _ _ 23 rfl w3.heap.size 3 i0 (.int .i64 0) 1 8 Try.underlying23 hi hz0 hz1 hz2 rfl (by decide) (.slice lb ss2.length lcap2) ss2.length (ss2.map (fun s : Nat => Value.int .i64 (s : Int))) rfl (HO6.out.alloc _) ⟨W6.heap.size, 0, none⟩ 1 1 [.int .i64 (q : Int)] rfl rfl (cell_new _ _ _ _ rfl) (by simp [Value.oneCell']) (by exact q1) (by exact q2) (by simp; omega) ?_; intro v3 w5 hown3 hg3 _)
              | fail)
            obtain ⟨lc, lcap3, rfl, -⟩ := owns_slice hown3
            have hu3 : Upd (fun k => (Value.slice lb ss2.length lcap2).ownBlock = some k) W6 w5 := Upd.grown (by repeat (first | exact Upd.refl _ _ | refine Upd.alloc ?_ _ | refine Upd.drew ?_)) hg3 (fun k hk => .inl hk)
            have hbase : ∀ k, (Value.slice lb ss2.length lcap2).ownBlock = some k → w3.heap.size ≤ k := fun k hk2 => by
              rcases HO6.out.2 with ⟨e0, _⟩ | ⟨g', cap', cur, e0, hbg, _⟩
              · rw [e0] at hk2; simp [Value.ownBlock] at hk2
              · rw [e0] at hk2; simp [Value.ownBlock] at hk2; omega
            have hs7 := hu3.size
            have hR7 := HR6.out.keep hu3 (fun e => by have := hbase _ e; omega)
            have hk7 := hk6.new hu3 (fun k hk2 => by have := hbase _ hk2; omega)
            have HR7 := Lib.hid hR7
            have HOW := Lib.hid hown3
            clear hown3 hg3 hu3 hR7
            go_wp2_with fail
            go_roundg (gk - 1)
            case rel => exact ⟨q, ss2 ++ [q], lc, lcap3, rfl, by simp, by have := HPG.out; omega, by omega, HIN2.out.next hge, HR7.out, by have := HOW.out; simpa using this, hk7, by omega⟩
            case measure => have := HPG.out; omega
        · have hpd : p = d := by have := HIN2.out.low; omega
          subst hpd
          have hlt2 : ¬ (p : Int) ≤ (p : Int) - 1 := by omega
          have hout := HIN2.out.out HX.out
          have HOUT := Lib.hid hout
          clear hout
          go_wp2_with fail
          go_roundg (g0 - 1)
          case rel => exact ⟨p + 1, ss2, lb, lcap2, by simp, rfl, by omega, HOUT.out, fun _ => ⟨g, rfl, hgl, HROW2.out⟩, HO2.out, hk2, hsz2⟩
          case measure => omega
    · have hd2 : d = N := by omega
      subst hd2
      have hfin : runL ps ss = qs := by
        have h0 := HST.out
        rw [HN.out] at h0
        exact h0.done HL.out
      have hfew := HST.out.few
      rw [← HN.out] at hfew
      have hO := HO.out
      have hb : (Value.slice la ss.length lcap).ownBlock = none ∨ True := .inr trivial
      have hOl : wr.ownsRow w.heap.size 3 1 (.slice la ss.length lcap) ss.length (ss.map (fun s : Nat => Value.int .i64 (s : Int))) := ownsRow_low hk3.size hO
      have HOL := Lib.hid hOl
      have HFIN := Lib.hid hfin
      have HFEW := Lib.hid hfew
      clear hfin hfew hO hb hOl
      go_wp2_with fail
      go_ret2
      exact ⟨ss, la, lcap, rfl, HOL.out, HFIN.out, fun s hs => by rw [HN.out]; exact HST.out.fit s hs, by have := HFEW.out; exact this, hk⟩

end Go.Proofs.Ytoeoehbpahodnaa

namespace Go.Proofs.Ytoeoehbpahodnaa
set_option linter.unusedSimpArgs false
set_option linter.unusedVariables false
set_option maxHeartbeats 600000
open Go.RowKit

def permCode (M : St) (n : Nat) (qs : List Int) (rs : List (Int × Edge)) : Int := if M.n = (n : Int) then (if n = qs.length ∧ permB qs = true then mayL M rs else 1) else 1

def PermOut (F Fo : Nat → Prop) (w : World) (sb ob : Nat) (M : St) (ps qs : List Int) (rs : List (Int × Edge)) (c code : Int) (r : Ending) (w' : World) : Prop :=
  (code ≠ 0 ∧ r = .returned (.tuple #[.slice none 0 0, .int .u8 code]) ∧ Keeps w w') ∨
    (code = 0 ∧ ∃ ss : List Nat, runL ps ss = qs ∧ (∀ s ∈ ss, s + 1 < ps.length) ∧ AllOut F Fo w sb ob M ps ss rs c r w')

set_option maxRecDepth 100000 in
theorem permute_fit (sb ob : Nat) (s2 s3 : Value) (w : World)
    (hfit : ∀ W, Keeps w W → Calls Try.prog 35 #[.pointer (some ⟨sb, 0, none⟩), .pointer (some ⟨ob, 0, none⟩)] W fun e w' => e = .returned (.int .u8 1) ∧ Keeps W w') :
    Calls Try.prog 26 #[.pointer (some ⟨sb, 0, none⟩), .pointer (some ⟨ob, 0, none⟩), s2, s3] w fun e w' => e = .returned (.tuple #[.slice none 0 0, .int .u8 1]) ∧ Keeps w w' := by
  have HF := Lib.hid hfit
  clear hfit
  go_enter Try.func26, Try.ntmps26
  go_wp2_with (first | (go_at_call 35; refine (HF.out _ (by (exact kp))).mono ?_; rintro e w1 ⟨rfl, hk1⟩) | fail)
  go_ret2
  exact ⟨rfl, by (exact kp)⟩

set_option maxRecDepth 100000 in
theorem permute_bad (sb ob n m : Nat) (ps : List Int) (a2 : Option Addr) (cap2 : Nat) (s3 : Value) (w : World)
    (hfit : ∀ W, Keeps w W → Calls Try.prog 35 #[.pointer (some ⟨sb, 0, none⟩), .pointer (some ⟨ob, 0, none⟩)] W fun e w' => e = .returned (.int .u8 0) ∧ Keeps W w')
    (hperm : ∀ W, Keeps w W → Calls Try.prog 17 #[.pointer (some ⟨ob, 0, none⟩)] W fun e w' => ∃ a cap, e = .returned (.slice a n cap) ∧ RowV W.heap.size w' a ps ∧ Keeps W w')
    (hsteps : ∀ W a cap, Keeps w W → IntsAt W a ps → Calls Try.prog 51 #[.slice a n cap, .slice a2 m cap2] W fun e w' => e = .returned (.tuple #[.slice none 0 0, .bool false]) ∧ Keeps W w') :
    Calls Try.prog 26 #[.pointer (some ⟨sb, 0, none⟩), .pointer (some ⟨ob, 0, none⟩), .slice a2 m cap2, s3] w fun e w' => e = .returned (.tuple #[.slice none 0 0, .int .u8 1]) ∧ Keeps w w' := by
  have HF := Lib.hid hfit
  have HP := Lib.hid hperm
  have HS := Lib.hid hsteps
  clear hfit hperm hsteps
  go_enter Try.func26, Try.ntmps26
  go_wp2_with (first
    | (go_at_call 35; refine (HF.out _ (by (exact kp))).mono ?_; rintro e w1 ⟨rfl, hk1⟩)
    | (go_at_call 17; refine (HP.out _ (by (exact kp))).mono ?_; rintro e w2 ⟨a, cap, rfl, hr, hk2⟩)
    | (go_at_call 51; refine (HS.out _ a cap (by (exact kp)) hr.ints).mono ?_; rintro e w3 ⟨rfl, hk3⟩)
    | fail)
  go_ret2
  exact ⟨rfl, by (exact kp)⟩

set_option maxRecDepth 100000 in
theorem permute_walk (sb ob n m N : Nat) (ps : List Int) (Q : World → World → Option Addr → Nat → Nat → Prop) (a2 a3 : Option Addr) (cap2 cap3 : Nat) (w : World) (P : Ending → World → Prop)
    (hfit : ∀ W, Keeps w W → Calls Try.prog 35 #[.pointer (some ⟨sb, 0, none⟩), .pointer (some ⟨ob, 0, none⟩)] W fun e w' => e = .returned (.int .u8 0) ∧ Keeps W w')
    (hperm : ∀ W, Keeps w W → Calls Try.prog 17 #[.pointer (some ⟨ob, 0, none⟩)] W fun e w' => ∃ a cap, e = .returned (.slice a n cap) ∧ RowV W.heap.size w' a ps ∧ Keeps W w')
    (hsteps : ∀ W a cap, Keeps w W → IntsAt W a ps → Calls Try.prog 51 #[.slice a n cap, .slice a2 m cap2] W fun e w' => ∃ a' k cap', e = .returned (.tuple #[.slice a' k cap', .bool true]) ∧ Q W w' a' k cap' ∧ Keeps W w')
    (hall : ∀ W W' a' k cap', Keeps w W → Keeps W W' → Q W W' a' k cap' → Calls Try.prog 37 #[.pointer (some ⟨sb, 0, none⟩), .pointer (some ⟨ob, 0, none⟩), .slice a' k cap', .slice a3 N cap3] W' P)
    (hshape : ∀ r w', P r w' → ∃ v1 v2, r = .returned (.tuple #[v1, v2])) :
    Calls Try.prog 26 #[.pointer (some ⟨sb, 0, none⟩), .pointer (some ⟨ob, 0, none⟩), .slice a2 m cap2, .slice a3 N cap3] w P := by
  have HF := Lib.hid hfit
  have HP := Lib.hid hperm
  have HS := Lib.hid hsteps
  have HA := Lib.hid hall
  have HSH := Lib.hid hshape
  clear hfit hperm hsteps hall hshape
  go_enter Try.func26, Try.ntmps26
  go_wp2_with (first
    | (go_at_call 35; refine (HF.out _ (by (exact kp))).mono ?_; rintro e w1 ⟨rfl, hk1⟩)
    | (go_at_call 17; refine (HP.out _ (by (exact kp))).mono ?_; rintro e w2 ⟨a, cap, rfl, hr, hk2⟩)
    | (go_at_call 51; refine (HS.out _ a cap (by (exact kp)) hr.ints).mono ?_; rintro e w3 ⟨a', k, cap', rfl, hq, hk3⟩)
    | fail)
  refine (HA.out w2 w3 a' k cap' (by (exact kp)) hk3 hq).mono ?_
  rintro r w4 hh
  obtain ⟨v1, v2, rfl⟩ := HSH.out _ _ hh
  have HH := Lib.hid hh
  clear hh
  go_wp2_with fail
  exact HH.out

set_option maxHeartbeats 1000000 in
theorem permute_calls {F Fo : Nat → Prop} {w : World} {sb ob : Nat} {M : St} {ps qs : List Int} {rs : List (Int × Edge)} {c : Int} (h : StoreRep F w sb M) (ho : OrdRep Fo w ob ps) (hd : ∀ k, F k → ¬ Fo k)
    (a2 a3 : Option Addr) (cap2 cap3 : Nat) (hQ : ∀ W, Upd (fun j => F j ∨ Fo j) w W → IntsAt W a2 qs) (hql : qs.length ≤ 1048576) (hR : ∀ W, Upd (fun j => F j ∨ Fo j) w W → IsRoots W a3 rs) (hrl : rs.length ≤ 16) (hc : ∀ s : Nat, (s : Int) + 1 < M.n → costS (s : Int) 0 ≤ c) (hc0 : 0 ≤ c)
    (hroom : M.n = (ps.length : Int) → ∀ k, k ≤ ps.length * ps.length → M.len + ((k * rs.length : Nat) : Int) * c < M.room) (hrm : M.room < 1048576) :
    Calls Try.prog 26 #[.pointer (some ⟨sb, 0, none⟩), .pointer (some ⟨ob, 0, none⟩), .slice a2 qs.length cap2, .slice a3 rs.length cap3] w (PermOut F Fo w sb ob M ps qs rs c (permCode M ps.length qs rs)) := by
  have hfit := fun (W : World) (hW : Keeps w W) => swapFit_calls (h.keeps hW) (ho.keeps hW)
  have hperm := fun (W : World) (hW : Keeps w W) => ordPerm_calls (ho.keeps hW)
  have hn0 := h.wf.n0
  have hn16 := h.wf.n16
  have hp := ho.perm
  have hp16 := ho.le
  by_cases h1 : M.n = (ps.length : Int)
  · rw [if_pos h1] at hfit
    by_cases h2 : ps.length = qs.length ∧ permB qs = true
    · have e1 : permCode M ps.length qs rs = mayL M rs := by unfold permCode; rw [if_pos h1, if_pos h2]
      rw [e1]
      have hroom := hroom h1
      refine permute_walk sb ob ps.length qs.length rs.length ps (fun W W' a' k cap' => ∃ ss : List Nat, ss.length = k ∧ W'.ownsRow W.heap.size 3 1 (.slice a' k cap') k (ss.map (fun s : Nat => Value.int .i64 (s : Int))) ∧ runL ps ss = qs ∧ (∀ s ∈ ss, s + 1 < ps.length) ∧ ss.length ≤ ps.length * ps.length) a2 a3 cap2 cap3 w _ hfit hperm (fun W a cap hW hI => ?_) (fun W W' a' k cap' hW hW' hq => ?_) (fun r w' hh => ?_)
      · have := steps_calls a a2 cap cap2 ps qs W hI (hQ W (hW.upd _)) hp h2.2 h2.1
        refine this.mono fun e w' hh => ?_
        obtain ⟨ss, a', cap', he, g1, g2, g3, g4, g5⟩ := hh
        exact ⟨a', ss.length, cap', he, ⟨ss, rfl, g1, g2, g3, g4⟩, g5⟩
      · obtain ⟨ss, rfl, hown, g2, g3, g4⟩ := hq
        have hWW := hW.trans hW'
        by_cases hm : mayL M rs = 0
        · have hk2 : ss.length ≤ 256 := by
            have : ps.length * ps.length ≤ 16 * 16 := Nat.mul_le_mul hp16 hp16
            omega
          have hall := swapAll_calls (ss := ss) (c := c) (h.keeps hWW) (ho.keeps hWW) hd a' a3 cap' cap3 (fun W2 hW2 i x hx => ?_) (fun W2 hW2 => hR W2 ((hWW.upd _).trans' hW2)) (by omega) hrl hm h1 g3 (fun s hs => hc s (by have := g3 s hs; omega)) hc0 (hroom _ g4) hrm
          · exact hall.mono fun r w' hh => .inr ⟨hm, ss, g2, g3, hh.before hWW⟩
          · exact owns_ints hown hW2 (fun k hk => by
              have := hW.size
              rcases hk with hk | hk
              · have := h.lt _ hk; omega
              · have := ho.lt _ hk; omega) i x hx
        · exact (all_bad (h.keeps hWW) _ _ a3 cap3 (hR W' (hWW.upd _)) (by omega) hm).mono fun r w' ⟨he, hk⟩ => .inl ⟨hm, he, hWW.trans hk⟩
      · rcases hh with ⟨_, rfl, _⟩ | ⟨_, ss, _, _, g, es, M', F', rfl, _⟩
        · exact ⟨_, _, rfl⟩
        · exact ⟨_, _, rfl⟩
    · have e1 : permCode M ps.length qs rs = 1 := by unfold permCode; rw [if_pos h1, if_neg h2]
      rw [e1]
      refine (permute_bad sb ob ps.length qs.length ps a2 cap2 _ w hfit hperm (fun W a cap hW hI => ?_)).mono fun r w' ⟨he, hk⟩ => .inl ⟨by decide, he, hk⟩
      exact steps_bad a a2 cap cap2 ps qs W hI (hQ W (hW.upd _)) hp (by omega) hql h2
  · have e1 : permCode M ps.length qs rs = 1 := if_neg h1
    rw [if_neg h1] at hfit
    rw [e1]
    exact (permute_fit sb ob _ _ w hfit).mono fun r w' ⟨he, hk⟩ => .inl ⟨by decide, he, hk⟩

end Go.Proofs.Ytoeoehbpahodnaa
