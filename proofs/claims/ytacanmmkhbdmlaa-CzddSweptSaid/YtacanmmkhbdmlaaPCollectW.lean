/-
  seq.Take and seq.Collect over an iterator over ids.
-/
import Derived.Test.YtacanmmkhbdmlaaPIdsW
import Derived.Test.YtacanmmkhbdmlaaPReachA
import Derived.Maps.AppendAt
namespace Go.Proofs.Ytacanmmkhbdmlaa
set_option linter.unusedSimpArgs false
set_option linter.unusedVariables false
set_option maxHeartbeats 600000
open Go.RowKit Go.Shelf

attribute [local go_sem] Oper.semAt_some

set_option maxRecDepth 100000 in
theorem take_calls (g : Nat) (lb : Array Value) (nn : Int) (w : World) :
    Calls Try.prog 96 #[.func (.func g) #[] lb, .int .i64 nn] w fun e w' => e = .returned (.func (.func 126) #[] #[.pointer (some ⟨w.heap.size + 1, 0, none⟩), .pointer (some ⟨w.heap.size, 0, none⟩)]) ∧
      w'.cell? ⟨w.heap.size, 0, none⟩ = some (.func (.func g) #[] lb) ∧ w'.cell? ⟨w.heap.size + 1, 0, none⟩ = some (.int .i64 nn) ∧ Keeps w w' := by
  go_enter Try.func96, Try.ntmps96
  go_wp2
  go_ret
  exact ⟨rfl, by simp [go_sem], by simp [go_sem], by (repeat (first | with_reducible exact Keeps.refl _ | with_reducible assumption | with_reducible refine Keeps.alloc ?_ _ | with_reducible refine Keeps.drewN ?_ _ | with_reducible refine Keeps.drew ?_ | refine Keeps.setCell ?_ (by dsimp only; omega) _ | with_reducible refine Keeps.trans ?_ (by assumption)))⟩

/-- Behind an append: a box that lies elsewhere. -/
theorem boxAfter {A w3 : World} {v u : Value} {L B : Nat} {o : Obj} (hg : (A.alloc o).grownBy w3 v.ownBlock) (nr : ∀ k, v.ownBlock = some k → B ≤ k) (hL : L < B) (hc : A.cell? ⟨L, 0, none⟩ = some u) (hf : A.frozen? ⟨L, 0, none⟩ = false) :
    Upd (fun k => v.ownBlock = some k) A w3 ∧ w3.cell? ⟨L, 0, none⟩ = some u ∧ w3.frozen? ⟨L, 0, none⟩ = false := by
  have hu : Upd (fun k => v.ownBlock = some k) (A.alloc o) w3 := ⟨hg.os, hg.tape, hg.output, hg.size, fun k hk hn => hg.block k hk (fun e => hn e.symm)⟩
  have hu3 : Upd (fun k => v.ownBlock = some k) A w3 := ((Upd.refl _ A).alloc o).trans' hu
  have hn : ¬ (v.ownBlock = some L) := fun hh => by have := nr _ hh; omega
  exact ⟨hu3, hu3.cellAt hn hc, (World.frozen?_of_block (a := ⟨L, 0, none⟩) (hu3.block L (lt_of_cell hc) hn)).trans hf⟩

set_option maxRecDepth 100000 in
set_option maxHeartbeats 1000000 in
theorem collect_calls2 {w : World} {g c : Nat} {lb : Array Value} {xs : List Int} {nn : Int} {St : World → Prop} (hit : Iter Try.prog g lb xs c St) (hSt : ∀ A, Keeps w A → St A) (eg : ∀ args w, (callFunc g args).run Try.prog w = .ok (.enter g args) w)
    (et : ∀ args w, (callFunc 126 args).run Try.prog w = .ok (.enter 126 args) w) (hlen : (xs.length : Int) < nn) (hn : nn ≤ 1048576) :
    Calls Try.prog 50 #[.func (.func g) #[] lb, .int .i64 nn] w fun e w' => ∃ v, e = .returned v ∧ IdRow w' v xs ∧ Keeps w w' ∧ ∀ g, v.ownBlock = some g → w.heap.size ≤ g := by
  refine (callsIn_wide (n := 3)).1 ?_
  refine callsIn_of_wp_marks Try.func50 rfl trivial ?_ rfl
  simp only [Try.ntmps50, List.size_toArray, List.length_cons, List.length_nil, Nat.reduceAdd, Nat.reduceSub, Array.replicate_succ, Array.replicate_zero, List.push_toArray, List.append_toArray, List.nil_append, List.cons_append]
  gi_wp2_with fail
  refine ⟨trivial, ?_⟩
  refine (callsIn_wide.2 (take_calls g lb nn _)).mono ?_
  rintro e w1 ⟨rfl, q1, q2, hk1⟩
  gi_wp2_with fail
  obtain ⟨i0, hi, hz0, hz1, hz2⟩ := info_parts info_u32
  have zw : w.heap.size < w1.heap.size := by have := hk1.size; simp only [World.size_alloc] at this; omega
  have zn : w.heap.size + 1 + 1 < w1.heap.size := by have := lt_of_cell q2; simpa using this
  simp only [World.size_alloc] at q1 q2
  have hkw : Keeps w w1 := ((Keeps.refl w).alloc _).trans hk1
  have l0 : w1.cell? ⟨w.heap.size, 0, none⟩ = some (.slice none 0 0) := hk1.cell (by simp)
  have lf : w1.frozen? ⟨w.heap.size, 0, none⟩ = false := (Below.frozen (p := ⟨w.heap.size, 0, none⟩) hk1 (by simp)).trans (by simp [go_sem])
  refine wpIn_range (xs := xs) (c := c + 4) (St := fun A => Keeps w A ∧ A.cell? ⟨w.heap.size + 1 + 1, 0, none⟩ = some (.int .i64 nn) ∧ A.cell? ⟨w.heap.size + 1, 0, none⟩ = some (.func (.func g) #[] lb))
    (gf := 126) (lb := #[.pointer (some ⟨w.heap.size + 1 + 1, 0, none⟩), .pointer (some ⟨w.heap.size + 1, 0, none⟩)]) rfl et
    (take1_iter (hit.later (fun A hA => hSt A hA.1)) eg (fun A hA => hA.2) hlen hn)
    (fun pre A => (Keeps w A ∧ A.cell? ⟨w.heap.size + 1 + 1, 0, none⟩ = some (.int .i64 nn) ∧ A.cell? ⟨w.heap.size + 1, 0, none⟩ = some (.func (.func g) #[] lb)) ∧
      (∃ a cap, A.cell? ⟨w.heap.size, 0, none⟩ = some (.slice a pre.length cap) ∧ A.ownsRow (w1.heap.size + 2 + (c + 4)) 33 1 (.slice a pre.length cap) pre.length (pre.map (Value.int .u32))) ∧ A.frozen? ⟨w.heap.size, 0, none⟩ = false)
    (fun _ _ => False) (fun p A hp => hp.1) ?abide (fun _ _ _ h _ => h) ⟨⟨hkw, q2, q1⟩, ⟨none, 0, l0, World.ownsRow_nil _ _ _ _⟩, lf⟩
    (fun x => { tmps := #[.func (.func g) #[] lb, .int .i64 nn, undef, undef, .slice none 0 0, .pointer (some ⟨w.heap.size, 0, none⟩), .int .u32 x, .func (.func g) #[] lb, .int .i64 nn, .func (.func 126) #[] #[.pointer (some ⟨w.heap.size + 1 + 1, 0, none⟩), .pointer (some ⟨w.heap.size + 1, 0, none⟩)], .int .u32 x, undef, undef, undef, undef, undef], defers := [] })
    ?assign ?body ?done ?stop
  case abide =>
    rintro p A A' ⟨⟨h1, h2, h3⟩, ⟨a, cap, h4, h5⟩, h6⟩ hu
    have hb : ∀ k, k < w1.heap.size → ¬ (w1.heap.size ≤ k ∧ k < w1.heap.size + (c + 4 + 2)) := fun k hk hh => by omega
    refine ⟨⟨h1.new hu (fun k hk => by omega), hu.cellAt (hb _ (by omega)) h2, hu.cellAt (hb _ (by omega)) h3⟩, ⟨a, cap, hu.cellAt (hb _ zw) h4, hu.owns (fun k hk hh => ?_) h5⟩, (World.frozen?_of_block (a := ⟨w.heap.size, 0, none⟩) (hu.block _ (lt_of_cell h4) (hb _ zw))).trans h6⟩
    rcases h5.2 with ⟨e0, _⟩ | ⟨g', cap', cur, e0, hbg, _⟩
    · rw [e0] at hk; simp [Value.ownBlock] at hk
    · rw [e0] at hk; simp [Value.ownBlock] at hk; omega
  case assign =>
    intro l' m x A K hK
    gi_wp2
    exact hK
  case body =>
    rintro l' m pre x A ⟨⟨h1, h2, h3⟩, ⟨va, vcap, h4, h5⟩, h6⟩ hpre hsz
    have hlp : pre.length + 1 ≤ xs.length := by have := hpre.length_le; simpa using this
    have hp1 : pre.length + 1 ≤ 1048576 := by omega
    have hp2 : pre.length + 1 ≤ maxLen := by unfold maxLen; omega
    have hp3 : (pre.length + 1) * 4 ≤ 140737488355328 := by omega
    have nr : ∀ k, Value.ownBlock (.slice va pre.length vcap) = some k → w1.heap.size + 2 + (c + 4) ≤ k := fun k hk => by
      rcases h5.2 with ⟨e0, _⟩ | ⟨g', cap', cur, e0, hbg, _⟩
      · rw [e0] at hk; simp [Value.ownBlock] at hk
      · rw [e0] at hk; simp [Value.ownBlock] at hk; omega
    have la := lt_of_cell h4
    dsimp only at la
    gi_wp2_with (first
      | (gi_at_builtin; refine wpListIn_append_own _ rfl _ _ 44 rfl (w1.heap.size + 2 + (c + 4)) 33 i0 (.int .u32 0) 1 4 Try.underlying44 hi hz0 hz1 hz2 rfl (by decide) (.slice va pre.length vcap) pre.length (pre.map (Value.int .u32)) rfl (h5.alloc _) ⟨A.heap.size, 0, none⟩ 1 1 [.int .u32 x] rfl rfl (cell_one_new _ _ _) (by simp [Value.oneCell']) (by exact hp2) (by exact hp3) (by simp; omega) ?_; intro v' w3 hown3 hg3 _; obtain ⟨g', cap', rfl⟩ := ownsRow_succ hown3; obtain ⟨hu3, c9, f9⟩ := boxAfter hg3 nr (by omega) h4 h6)
      | fail)
    have hg'B : w1.heap.size + 2 + (c + 4) ≤ g' := by
      rcases hown3.2 with ⟨e0, _⟩ | ⟨g2, cap2, cur, e0, hbg, _⟩
      · simp at e0
      · simp at e0; omega
    have hu4 : Upd (fun k => Value.ownBlock (.slice va pre.length vcap) = some k ∨ k = w.heap.size) A (w3.setCell ⟨w.heap.size, 0, none⟩ (.slice (some ⟨g', 0, none⟩) (pre.length + 1) cap')) :=
      Upd.setCell (F := fun k => Value.ownBlock (.slice va pre.length vcap) = some k ∨ k = w.heap.size) (hu3.mono (fun k _ hk => Or.inl hk)) (p := ⟨w.heap.size, 0, none⟩) (.inl (Or.inr rfl)) _
    have hu5 : Upd (fun k => k = w.heap.size) w3 (w3.setCell ⟨w.heap.size, 0, none⟩ (.slice (some ⟨g', 0, none⟩) (pre.length + 1) cap')) :=
      Upd.setCell (F := fun k => k = w.heap.size) (Upd.refl _ w3) (p := ⟨w.heap.size, 0, none⟩) (.inl rfl) _
    have hfar : ∀ k, k < w1.heap.size + 2 + (c + 4) → k ≠ w.heap.size → ¬ (Value.ownBlock (.slice va pre.length vcap) = some k ∨ k = w.heap.size) := fun k q1 q2 hh => by
      rcases hh with hh | hh
      · have := nr _ hh; omega
      · exact q2 hh
    refine ⟨fun k q1 q2 => hu4.block k (by omega) (hfar k (by omega) (by omega)), hu4.size, ⟨h1.new hu4 (fun k hk => ?_), hu4.cellAt (hfar _ (by omega) (by omega)) h2, hu4.cellAt (hfar _ (by omega) (by omega)) h3⟩, ⟨some ⟨g', 0, none⟩, cap', ?_, ?_⟩, ?_⟩
    · rcases hk with hk | hk
      · have := nr _ hk; omega
      · omega
    · rw [List.length_append]
      simp [go_sem, c9]
    · have := hu5.owns (fun k hk hh => by simp [Value.ownBlock] at hk; omega) hown3
      rw [List.length_append, List.map_append]
      exact this
    · simp [go_sem, f9]
  case done =>
    rintro A ⟨⟨h1, h2, h3⟩, ⟨a, cap, h4, h5⟩, h6⟩ hK
    have la := lt_of_cell h4
    dsimp only at la
    have hus : Upd (fun k => k = w1.heap.size) A (A.putObj w1.heap.size (.deferred none)) := Upd.putObj (F := fun k => k = w1.heap.size) (Upd.refl _ A) (.inl rfl) _
    gi_wp2
    refine ⟨by simp, .inl ⟨_, _, rfl, run_takeDeferred hK, ?_⟩⟩
    refine ⟨_, results_tmp rfl _ _ _, _, rfl, ⟨a, cap, rfl, fun i x hx => ?_⟩, h1.new hus (fun k hk => by omega), fun g hg => ?_⟩
    rotate_left
    · rcases h5.2 with ⟨e0, hz⟩ | ⟨g2, cap2, cur, e0, hbg, _⟩
      · rw [e0] at hg; simp [Value.ownBlock] at hg
      · rw [e0] at hg; simp [Value.ownBlock] at hg; omega
    have hi' := (List.getElem?_eq_some_iff.1 hx).1
    rcases h5.2 with ⟨e0, hz⟩ | ⟨g2, cap2, cur, e0, hbg, _⟩
    · omega
    · cases e0
      refine ⟨g2, rfl, hus.cellAt (by omega) ?_⟩
      rw [h5.cellAt i (by omega)]
      simp [hx]
  case stop => exact fun _ _ _ h _ => h.elim

theorem collect_calls {w : World} {g c : Nat} {lb : Array Value} {xs : List Int} {nn : Int} {St : World → Prop} (hit : Iter Try.prog g lb xs c St) (hSt : ∀ A, Keeps w A → St A) (eg : ∀ args w, (callFunc g args).run Try.prog w = .ok (.enter g args) w)
    (et : ∀ args w, (callFunc 126 args).run Try.prog w = .ok (.enter 126 args) w) (hlen : (xs.length : Int) < nn) (hn : nn ≤ 1048576) :
    Calls Try.prog 50 #[.func (.func g) #[] lb, .int .i64 nn] w fun e w' => ∃ v, e = .returned v ∧ IdRow w' v xs ∧ Keeps w w' :=
  (collect_calls2 hit hSt eg et hlen hn).mono fun _ _ ⟨v, he, hr, hk, _⟩ => ⟨v, he, hr, hk⟩

end Go.Proofs.Ytacanmmkhbdmlaa
