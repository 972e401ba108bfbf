/-
  Plainly, and over worlds: the rows that SwapTwice builds, and what comes back behind two swaps, and behind a move there and back.
-/
import Derived.Test.YtoeoehbpahodnaaPSetFxB
import Derived.Test.YtoeoehbpahodnaaPTwiceSxB
import Derived.Test.YtoeoehbpahodnaaPTwiceWxB
import Derived.Test.YtoeoehbpahodnaaRows
namespace Go.Proofs.Ytoeoehbpahodnaa
set_option linter.unusedSimpArgs false
set_option linter.unusedVariables false
set_option maxHeartbeats 600000
open Go.RowKit

structure BuiltRows (F Fo : Nat → Prop) (W6 wr : World) (sb ob : Nat) (ps : List Int) (has : Nat → Bool) (room : Int) (f : Nat) (M : St) (G : Nat → Prop) (rs : List (Int × Edge)) (v : Value) : Prop where
  sit : Sit G Fo wr sb ob M ps
  sub : ∀ j, G j → F j ∨ W6.heap.size ≤ j
  upd : Upd F W6 wr
  room : M.room = room
  len : M.len ≤ 31 * ((f : Int) - 1)
  own : wr.ownsRow W6.heap.size 67 3 v (f - 1) (rs.flatMap rootCs)
  apart : ∀ k, v.ownBlock = some k → ¬ G k
  num : rs.length = f - 1
  roots : ∀ (i : Nat) (r : Int × Edge), rs[i]? = some r → r.1 = (i : Int) + 1 ∧ r.2.ok ∧ BuiltAt r.1 M has ps 0 0 r.2

theorem owned_lt {w : World} {base : Nat} {e : TypeId} {size : Nat} {v : Value} {n : Nat} {xs : List Value} (h : w.ownsRow base e size v n xs) {k : Nat} (hk : v.ownBlock = some k) : k < w.heap.size := by
  obtain ⟨c, hc⟩ := owns_type h hk
  exact lt_of_heap hc

theorem BuiltRows.next {F Fo G : Nat → Prop} {W6 wr w7 w8 : World} {sb ob : Nat} {ps : List Int} {has : Nat → Bool} {room : Int} {f : Nat} {M M' : St} {rs : List (Int × Edge)} {v v' : Value} {e : Edge} (h : BuiltRows F Fo W6 wr sb ob ps has room f M G rs v) (hf1 : 1 ≤ f) (hf5 : f ≤ 5) (hp5 : ps.length ≤ 5)
    (hok : e.ok) (hbt : BuiltAt (f : Int) M' has ps 0 0 e) (hgr : GrownBy M M' ((2 ^ ps.length - 1 : Nat) : Int)) (hst : Stood G wr w7 sb M') (hlow : ∀ k, F k → k < W6.heap.size) (hFo : ∀ k, Fo k → k < W6.heap.size) (hG : ∀ k, G k → k < wr.heap.size)
    (hu : Upd (fun k => v.ownBlock = some k) w7 w8) (hown : w8.ownsRow W6.heap.size 67 3 v' (f - 1 + 1) (rs.flatMap rootCs ++ rootCs ((f : Int), e))) (hfr : ∀ k, v'.ownBlock = some k → v.ownBlock = some k ∨ w7.heap.size ≤ k) :
    ∃ G', BuiltRows F Fo W6 w8 sb ob ps has room (f + 1) M' G' (rs ++ [((f : Int), e)]) v' := by
  obtain ⟨⟨G', r7, sub7⟩, u7⟩ := hst
  have hs6 := h.upd.size
  have hs7 := u7.size
  have hwf := h.sit.rep.wf
  have hp : 2 ^ ps.length ≤ 2 ^ 5 := Nat.pow_le_pow_right (by decide) hp5
  have e5 : (2 : Nat) ^ 5 = 32 := rfl
  have hp0 : 0 < 2 ^ ps.length := Nat.pow_pos (by decide)
  have hap : ∀ k, v.ownBlock = some k → ¬ G' k := fun k hk hg => by
    have hlt := owned_lt h.own hk
    rcases sub7 k hg with q | q
    · exact h.apart k hk q
    · omega
  have hbase : ∀ k, v.ownBlock = some k → W6.heap.size ≤ k := fun k hk => owns_from h.own hk
  have ord7 : OrdRep Fo w7 ob ps := h.sit.ord.keep u7 (fun k h1 h2 => h.sit.dis k h2 h1)
  have hsub : ∀ j, G' j → F j ∨ W6.heap.size ≤ j := fun j hj => by
    rcases sub7 j hj with q | q
    · exact h.sub j q
    · right; omega
  refine ⟨G', ⟨r7.keep hu (fun k h1 h2 => hap k h2 h1), ord7.keep hu (fun k h1 h2 => by have := hbase k h2; have := hFo k h1; omega), fun k h1 h2 => ?_, by rw [hgr.ext.n]; exact h.sit.n, by rw [hgr.room]; exact h.sit.room⟩, hsub, ?_, hgr.room.trans h.room, ?_, ?_, ?_, ?_, ?_⟩
  · rcases sub7 k h1 with q | q
    · exact h.sit.dis k q h2
    · have := hFo k h2; omega
  · have u67 : Upd F W6 w7 := h.upd.later u7 (fun i hi hg => by
      rcases h.sub i hg with q | q
      · exact q
      · omega)
    exact u67.later hu (fun i hi hg => by have := hbase i hg; omega)
  · have := h.len
    have := hgr.len
    push_cast
    omega
  · rw [show f + 1 - 1 = f - 1 + 1 by omega, List.flatMap_append]
    simpa using hown
  · intro k hk hg
    rcases hfr k hk with q | q
    · exact hap k q hg
    · have := r7.lt k hg; omega
  · rw [List.length_append, h.num, List.length_singleton]; omega
  · intro i r hr
    by_cases hi : i < rs.length
    · rw [List.getElem?_append_left hi] at hr
      obtain ⟨a1, a2, a3⟩ := h.roots i r hr
      have := h.num
      exact ⟨a1, a2, a3.ext hgr.ext hwf (by omega)⟩
    · have hl := (List.getElem?_eq_some_iff.1 hr).1
      rw [List.length_append, List.length_singleton] at hl
      have hi2 : i = rs.length := by omega
      rw [hi2, List.getElem?_append_right (Nat.le_refl _), Nat.sub_self] at hr
      simp at hr
      subst hr
      have := h.num
      exact ⟨by show (f : Int) = (i : Int) + 1; omega, hok, hbt⟩

theorem BuiltRows.all {F Fo G : Nat → Prop} {W6 wr : World} {sb ob : Nat} {ps : List Int} {has : Nat → Bool} {room : Int} {M : St} {rs : List (Int × Edge)} {a : Option Addr} {cap : Nat} (h : BuiltRows F Fo W6 wr sb ob ps has room 6 M G rs (.slice a 5 cap)) (hFo : ∀ k, Fo k → k < W6.heap.size) :
    RootsIn G Fo wr a rs ∧ ∀ r ∈ rs, (1 ≤ r.1 ∧ r.1 ≤ 5) ∧ M.leads r.1 r.2 0 = true ∧ rightK M r.1 r.2 0 ∧ 0 ≤ r.2.to := by
  have hnum := h.num
  have hrng : ∀ r ∈ rs, (1 ≤ r.1 ∧ r.1 ≤ 5) ∧ r.2.ok ∧ BuiltAt r.1 M has ps 0 0 r.2 := fun r hr => by
    obtain ⟨i, hi⟩ := List.mem_iff_getElem?.1 hr
    obtain ⟨a1, a2, a3⟩ := h.roots i r hi
    have := (List.getElem?_eq_some_iff.1 hi).1
    exact ⟨by omega, a2, a3⟩
  refine ⟨fun W hW => ?_, fun r hr => ?_⟩
  · have hO := hW.owns (fun k hk hh => by
      rcases hh with hh | hh
      · exact h.apart k hk hh
      · have := owns_from h.own hk; have := hFo k hh; omega) h.own
    exact roots_at hO (by omega) (Upd.refl (fun _ => False) _) (fun k hk => hk.elim) (fun r hr => ⟨by have := (hrng r hr).1; omega, (hrng r hr).2.1⟩)
  · obtain ⟨a1, a2, a3⟩ := hrng r hr
    have hl := a3.1.leads h.sit.rep.wf a1 (by have := h.sit.n; omega)
    exact ⟨a1, hl, a3.2, a2.2.1⟩

theorem back_all {n : Nat} {ss ts : List Nat} {M0 M1 M1' M2 : St} {rs : List (Int × Edge)} {es1 es2 : List Edge} {ps : List Int} (hp : permB ps = true) (hlen : ps.length = n) (hn : M2.n = (n : Int)) (h1 : RootsOk n ss M0 M1 rs es1) (h2 : RootsOk n ts M1' M2 (withL rs es1) es2)
    (w0 : M0.wf) (w1 : M1.wf) (w1' : M1'.wf) (w2 : M2.wf) (e01 : Ext M0 M1) (e11 : Ext M1 M1') (e12 : Ext M1' M2) (hb : runL (runL ps ss) ts = ps) (hr : ∀ r ∈ rs, (1 ≤ r.1 ∧ r.1 ≤ 5) ∧ M0.leads r.1 r.2 0 = true ∧ rightK M0 r.1 r.2 0 ∧ 0 ≤ r.2.to) (hfit : Fit0 M2) (hroom : M2.len + 2 * ((2 ^ n : Nat) : Int) ≤ 1048576) :
    es2 = rs.map Prod.snd := by
  have l1 := h1.1
  have l2 := h2.1
  rw [withL_len l1] at l2
  apply List.ext_getElem?
  intro i
  by_cases hi : i < rs.length
  · obtain ⟨r, hx⟩ : ∃ b, rs[i]? = some b := ⟨_, List.getElem?_eq_getElem hi⟩
    obtain ⟨x, hx1⟩ : ∃ b, es1[i]? = some b := ⟨_, List.getElem?_eq_getElem (by omega)⟩
    obtain ⟨y, hy⟩ : ∃ b, es2[i]? = some b := ⟨_, List.getElem?_eq_getElem (by omega)⟩
    obtain ⟨q1, q2, q3, q4⟩ := hr r (List.mem_of_getElem? hx)
    have := root_back hp hlen hn q1 (h1.2 i r x hx hx1) (h2.2 i _ y (withL_get hx hx1) hy) w0 w1 w1' w2 e01 e11 e12 hb q2 q3 q4 hfit hroom
    rw [hy, List.getElem?_map, hx, this]
    rfl
  · rw [List.getElem?_eq_none (by omega), List.getElem?_eq_none (by rw [List.length_map]; omega)]

theorem with_leads {n : Nat} {ss : List Nat} {M M1 : St} {rs : List (Int × Edge)} {es : List Edge} (h : RootsOk n ss M M1 rs es) (hr : ∀ r ∈ rs, (1 ≤ r.1 ∧ r.1 ≤ 5)) : ∀ q ∈ withL rs es, (1 ≤ q.1 ∧ q.1 ≤ 5) ∧ M1.leads q.1 q.2 0 = true ∧ q.2.ok := fun q hq => by
  obtain ⟨i, hi⟩ := List.mem_iff_getElem?.1 hq
  have hl := (List.getElem?_eq_some_iff.1 hi).1
  rw [withL_len h.1] at hl
  obtain ⟨r, hx⟩ : ∃ b, rs[i]? = some b := ⟨_, List.getElem?_eq_getElem hl⟩
  obtain ⟨x, hx1⟩ : ∃ b, es[i]? = some b := ⟨_, List.getElem?_eq_getElem (by rw [h.1]; exact hl)⟩
  rw [withL_get hx hx1] at hi
  cases hi
  have ro := h.2 i r x hx hx1
  exact ⟨hr r (List.mem_of_getElem? hx), ro.lead, ro.ok⟩

theorem with_in {F Fo : Nat → Prop} {w w' : World} {n : Nat} {ss : List Nat} {M M1 : St} {rs : List (Int × Edge)} {es : List Edge} {a : Option Addr} {cap : Nat} (hlt : ∀ k, F k ∨ Fo k → k < w.heap.size) (h : RootsOk n ss M M1 rs es) (hr : ∀ r ∈ rs, (1 ≤ r.1 ∧ r.1 ≤ 5)) (hown : w'.ownsRow w.heap.size 67 3 (.slice a rs.length cap) rs.length ((withL rs es).flatMap rootCs)) : RootsIn F Fo w' a (withL rs es) := fun W hW =>
  roots_at hown (withL_len h.1).symm hW hlt (fun q hq => ⟨by have := (with_leads h hr q hq).1; omega, (with_leads h hr q hq).2.2⟩)

theorem low_next {F Fo F1 : Nat → Prop} {w w0 : World} (h : ∀ k, F k ∨ Fo k → w.heap.size ≤ k) (hs : w.heap.size ≤ w0.heap.size) (hsub : ∀ j, F1 j → F j ∨ w0.heap.size ≤ j) : ∀ k, F1 k ∨ Fo k → w.heap.size ≤ k := fun k hk => by
  rcases hk with hk | hk
  · rcases hsub k hk with q | q
    · exact h k (.inl q)
    · omega
  · exact h k (.inr hk)

theorem RowV.later {G : Nat → Prop} {lo : Nat} {w w' : World} {a : Option Addr} {ps : List Int} (h : RowV lo w a ps) (hu : Upd G w w') (hG : ∀ k, lo ≤ k → ¬ G k) : RowV lo w' a ps := fun hn => by
  obtain ⟨g, ha, h1, h2⟩ := h hn
  exact ⟨g, ha, h1, h2.keep hu (hG g h1)⟩

end Go.Proofs.Ytoeoehbpahodnaa

namespace Go.Proofs.Ytoeoehbpahodnaa
set_option linter.unusedSimpArgs false
set_option linter.unusedVariables false
set_option maxHeartbeats 600000
open Go.ChangeShapes Go.WideShapes Go.ChangeAt Go.RowKit

set_option maxRecDepth 100000 in
set_option maxHeartbeats 2000000 in
theorem swapTwice_out (a1 : Option Addr) (cap : Nat) (ps : List Int) (lv fr tq a : Int) (w : World) (hps : IntsAt w a1 ps) (h : ps.length < 2 ∨ 5 < ps.length ∨ permB ps = false ∨ lv < 0 ∨ (ps.length : Int) - 1 ≤ lv ∨ fr < 0 ∨ (ps.length : Int) ≤ fr ∨ tq < 0 ∨ (ps.length : Int) ≤ tq) :
    Calls Try.prog 4 #[.slice a1 ps.length cap, .int .i64 lv, .int .i64 fr, .int .i64 tq, .int .u64 a] w fun e w' => e = .returned (.bool true) ∧ Keeps w w' := by
  have hrg := fun (h16 : ps.length ≤ 5) (W : World) (hW : Keeps w W) => refRight_calls a1 cap ps W (hps.keeps hW) (by omega)
  obtain ⟨K, hK⟩ : ∃ K, K = ps.length := ⟨_, rfl⟩
  rw [← hK] at hrg h ⊢
  by_cases h1 : K < 2
  · clear hrg hK hps h
    go_enter Try.func4, Try.ntmps4
    go_wp2_with (first | (go_at_call 6; refine (l26_alive _).mono ?_; rintro e w1 ⟨rfl, hk1⟩) | fail)
    go_ret
    exact ⟨rfl, by (exact kp)⟩
  by_cases h2 : 5 < K
  · clear hrg hK hps h
    go_enter Try.func4, Try.ntmps4
    go_wp2_with (first | (go_at_call 6; refine (l26_alive _).mono ?_; rintro e w1 ⟨rfl, hk1⟩) | fail)
    go_ret
    exact ⟨rfl, by (exact kp)⟩
  replace hrg := hrg (by omega)
  cases hp : permB ps with
  | false =>
    rw [hp] at hrg
    have HRG := Lib.hid hrg
    clear hrg hK hps h hp
    go_enter Try.func4, Try.ntmps4
    go_wp2_with (first | (go_at_call 6; refine (l26_alive _).mono ?_; rintro e w1 ⟨rfl, hk1⟩) | (go_at_call 14; refine (HRG.out _ (by (exact kp))).mono ?_; rintro e w2 ⟨rfl, rfl⟩) | fail)
    go_ret
    exact ⟨rfl, by (exact kp)⟩
  | true =>
    rw [hp] at hrg h
    have HRG := Lib.hid hrg
    clear hrg hK hps hp
    by_cases g1 : lv < 0
    · clear h
      go_enter Try.func4, Try.ntmps4
      go_wp2_with (first | (go_at_call 6; refine (l26_alive _).mono ?_; rintro e w1 ⟨rfl, hk1⟩) | (go_at_call 14; refine (HRG.out _ (by (exact kp))).mono ?_; rintro e w2 ⟨rfl, rfl⟩) | fail)
      go_ret
      exact ⟨rfl, by (exact kp)⟩
    by_cases g2 : (K : Int) - 1 ≤ lv
    · clear h
      go_enter Try.func4, Try.ntmps4
      go_wp2_with (first | (go_at_call 6; refine (l26_alive _).mono ?_; rintro e w1 ⟨rfl, hk1⟩) | (go_at_call 14; refine (HRG.out _ (by (exact kp))).mono ?_; rintro e w2 ⟨rfl, rfl⟩) | fail)
      go_ret
      exact ⟨rfl, by (exact kp)⟩
    by_cases g3 : fr < 0
    · clear h
      go_enter Try.func4, Try.ntmps4
      go_wp2_with (first | (go_at_call 6; refine (l26_alive _).mono ?_; rintro e w1 ⟨rfl, hk1⟩) | (go_at_call 14; refine (HRG.out _ (by (exact kp))).mono ?_; rintro e w2 ⟨rfl, rfl⟩) | fail)
      go_ret
      exact ⟨rfl, by (exact kp)⟩
    by_cases g4 : (K : Int) ≤ fr
    · clear h
      go_enter Try.func4, Try.ntmps4
      go_wp2_with (first | (go_at_call 6; refine (l26_alive _).mono ?_; rintro e w1 ⟨rfl, hk1⟩) | (go_at_call 14; refine (HRG.out _ (by (exact kp))).mono ?_; rintro e w2 ⟨rfl, rfl⟩) | fail)
      go_ret
      exact ⟨rfl, by (exact kp)⟩
    by_cases g5 : tq < 0
    · clear h
      go_enter Try.func4, Try.ntmps4
      go_wp2_with (first | (go_at_call 6; refine (l26_alive _).mono ?_; rintro e w1 ⟨rfl, hk1⟩) | (go_at_call 14; refine (HRG.out _ (by (exact kp))).mono ?_; rintro e w2 ⟨rfl, rfl⟩) | fail)
      go_ret
      exact ⟨rfl, by (exact kp)⟩
    have g6 : (K : Int) ≤ tq := by
      rcases h with h | h | h | h | h | h | h | h | h
      · omega
      · omega
      · cases h
      all_goals omega
    clear h
    go_enter Try.func4, Try.ntmps4
    go_wp2_with (first | (go_at_call 6; refine (l26_alive _).mono ?_; rintro e w1 ⟨rfl, hk1⟩) | (go_at_call 14; refine (HRG.out _ (by (exact kp))).mono ?_; rintro e w2 ⟨rfl, rfl⟩) | fail)
    go_ret
    exact ⟨rfl, by (exact kp)⟩

end Go.Proofs.Ytoeoehbpahodnaa
