/-
  The ids of an arena, one by one: arena.Ids, store.Ids and their closures.
-/
import Derived.Test.YtacanmmkhbdmlaaPRLaw
import Derived.Test.YtacanmmkhbdmlaaPStore
import Derived.RangeFuncBox
import Derived.Shelf.Abstract
import Derived.Shelf.RegionOpen
import Derived.WalkKit
import Derived.OwnWalkIn
import Derived.TacticsInMore
import Derived.LoopNIn
import Derived.LoopIn
namespace Go.Proofs.Ytacanmmkhbdmlaa
set_option linter.unusedSimpArgs false
set_option linter.unusedVariables false
set_option maxHeartbeats 600000
open Go.RowKit Go.Shelf

attribute [local go_sem] Oper.semAt_some

/-- The ids of cells, from one on. -/
def idsFrom : Int → List (Option Rec) → List Int
  | _, [] => []
  | i, some _ :: t => i :: idsFrom (i + 1) t
  | i, none :: t => idsFrom (i + 1) t

/-- The ids of all things, rising. -/
def idsL (cs : List (Option Rec)) : List Int := idsFrom 2 cs

theorem idsFrom_append (i : Int) (a b : List (Option Rec)) : idsFrom i (a ++ b) = idsFrom i a ++ idsFrom (i + a.length) b := by
  induction a generalizing i with
  | nil => simp [idsFrom]
  | cons x a ih =>
    have e : i + 1 + (a.length : Int) = i + ((x :: a).length : Int) := by rw [List.length_cons]; omega
    cases x with
    | none => show idsFrom (i + 1) (a ++ b) = idsFrom (i + 1) a ++ _; rw [ih, e]
    | some r => show i :: idsFrom (i + 1) (a ++ b) = (i :: idsFrom (i + 1) a) ++ _; rw [ih, e]; rfl

theorem idsL_take_some {cs : List (Option Rec)} {k : Nat} {r : Rec} (h : cs[k]? = some (some r)) : idsL (cs.take (k + 1)) = idsL (cs.take k) ++ [(k : Int) + 2] := by
  obtain ⟨hk, he⟩ := List.getElem?_eq_some_iff.1 h
  unfold idsL
  rw [List.take_succ_eq_append_getElem hk, he, idsFrom_append, List.length_take, show min k cs.length = k by omega, show (2 : Int) + (k : Int) = (k : Int) + 2 by omega]
  rfl

theorem idsL_take_none {cs : List (Option Rec)} {k : Nat} (h : cs[k]? = some none) : idsL (cs.take (k + 1)) = idsL (cs.take k) := by
  obtain ⟨hk, he⟩ := List.getElem?_eq_some_iff.1 h
  unfold idsL
  rw [List.take_succ_eq_append_getElem hk, he, idsFrom_append]
  simp [idsFrom]

theorem idsL_prefix (cs : List (Option Rec)) (k : Nat) : idsL (cs.take k) <+: idsL cs := by
  refine ⟨idsFrom (2 + ((cs.take k).length : Int)) (cs.drop k), ?_⟩
  unfold idsL
  rw [← idsFrom_append, List.take_append_drop]

set_option maxRecDepth 100000 in
set_option maxHeartbeats 1000000 in
theorem ids1_iter {F : Nat → Prop} {St : World → Prop} {ab bx : Nat} {cs : List (Option Rec)} {gone : List Int} {cnt room : Int} (hSt : ∀ A, St A → ArenaRep F A ab cs gone cnt room ∧ A.cell? ⟨bx, 0, none⟩ = some (.pointer (some ⟨ab, 0, none⟩))) :
    Iter Try.prog 107 #[.pointer (some ⟨bx, 0, none⟩)] (idsL cs) 0 St := by
  intro l J Jx W hJ hA hAx hR h0 n
  obtain ⟨hR0, hb0⟩ := hSt _ (hJ _ _ h0)
  obtain ⟨av, cap, hc0, _⟩ := hR0.cell
  have hfew := hR0.few
  refine callsIn_of_wp Try.func107 rfl trivial ?_ rfl
  simp only [Try.ntmps107, List.size_toArray, List.length_cons, List.length_nil, Nat.reduceAdd, Nat.reduceSub, Array.replicate_succ, Array.replicate_zero, List.push_toArray, List.append_toArray, List.nil_append, List.cons_append]
  gi_wp2
  gi_loopw [11] (fun i wr => ∃ k : Nat, k ≤ cs.length ∧ i = .int .i64 k ∧ J (idsL (cs.take k)) wr ∧ W.heap.size ≤ wr.heap.size)
    (fun i _ => cs.length - (intOf i).toNat)
  case atStart => exact ⟨0, Nat.zero_le _, rfl, h0, Nat.le_refl _⟩
  case round =>
    obtain ⟨k, hk, rfl, hJs, hsz⟩ := hrel
    obtain ⟨hRr, hbr⟩ := hSt _ (hJ _ _ hJs)
    obtain ⟨av, cap, hcr, hcb⟩ := hRr.cell
    by_cases hlt : k < cs.length
    · obtain ⟨cb, rfl, _, _, hcv, _⟩ := hcb (by omega)
      obtain ⟨x, hx⟩ : ∃ x, cs[k]? = some x := ⟨_, List.getElem?_eq_getElem hlt⟩
      have hin := hcv k x hx 7 (by decide)
      cases x with
      | none =>
        have hin' := hin.trans (show (cellVals none)[7]? = some (.bool false) from rfl)
        have hids := idsL_take_none hx
        clear hRr hcv hcb hin
        gi_wp2
        refine ⟨fun _ h => (by cases h), ?_⟩
        gi_wp2
        go_roundw
        case rel => exact ⟨k + 1, by omega, by simp, by rw [hids]; exact hJs, hsz⟩
        case measure => simp [intOf]; omega
      | some r =>
        have hin' := hin.trans (show (cellVals (some r))[7]? = some (.bool true) from rfl)
        have hids := idsL_take_some hx
        obtain ⟨fn, tmps, assign, body, hy, hR'⟩ := hR (n - 1) _ ((k : Int) + 2) wr hJs (by rw [← hids]; exact idsL_prefix cs (k + 1)) hsz
        clear hRr hcv hcb hin
        gi_wp2
        refine ⟨fun h => (by cases h), ?_⟩
        refine hR'.mono ?_
        rintro e W3 ⟨_, hz3, (⟨rfl, hJ3⟩ | ⟨rfl, hJx3⟩)⟩
        · gi_wp2
          go_roundw
          case rel => exact ⟨k + 1, by omega, by simp, by rw [hids]; exact hJ3, by omega⟩
          case measure => simp [intOf]; omega
        · gi_wp2
          refine bodyPost_ret (results_none rfl _ _ _) rfl ?_
          exact ⟨⟨_, rfl⟩, .inr ⟨_, by rw [← hids]; exact idsL_prefix cs (k + 1), hJx3⟩⟩
    · obtain rfl : k = cs.length := by omega
      rw [List.take_length] at hJs
      gi_wp2
      go_end0
      exact ⟨⟨_, rfl⟩, .inl hJs⟩

theorem eql_func (g : Nat) (lb : Array Value) (W : World) : (binOp .eql 73 (.func (.func g) #[] lb) .nilFunc).run Try.prog W = .ok (.bool false) W := by
  have he : (Op.equal 73 (.func (.func g) #[] lb) .nilFunc).run Try.prog W = .ok false W := by
    show (Op.equalIn (9999 + 1) 73 (.func (.func g) #[] lb) .nilFunc).run Try.prog W = .ok false W
    unfold Op.equalIn
    simp [Sem.run_bind, run_underlying, Try.underlying73, go_sem]
  simp [binOp, go_sem, he]

set_option maxRecDepth 100000 in
theorem none_calls (g : Nat) (lb : Array Value) (w : World) : Calls Try.prog 127 #[.func (.func g) #[] lb] w fun e w' => e = .returned (.func (.func g) #[] lb) ∧ w = w' := by
  have hf := eql_func g lb
  go_enter Try.func127, Try.ntmps127
  go_wp2
  go_ret
  exact ⟨rfl, rfl⟩

set_option maxRecDepth 100000 in
set_option maxHeartbeats 1000000 in
theorem take1_iter {St : World → Prop} {nb sb g c : Nat} {lb : Array Value} {xs : List Int} {nn : Int} (hit : Iter Try.prog g lb xs c St) (eg : ∀ args w, (callFunc g args).run Try.prog w = .ok (.enter g args) w)
    (hSt : ∀ A, St A → A.cell? ⟨nb, 0, none⟩ = some (.int .i64 nn) ∧ A.cell? ⟨sb, 0, none⟩ = some (.func (.func g) #[] lb)) (hlen : (xs.length : Int) < nn) (hn : nn ≤ 1048576) :
    Iter Try.prog 126 #[.pointer (some ⟨nb, 0, none⟩), .pointer (some ⟨sb, 0, none⟩)] xs (c + 4) St := by
  intro l J Jx W hJ hA hAx hR h0 n
  obtain ⟨hcn, hcs⟩ := hSt _ (hJ _ _ h0)
  have hn0 : 1 ≤ nn := by omega
  have l1 : nb < W.heap.size := lt_of_cell hcn
  have l2 : sb < W.heap.size := lt_of_cell hcs
  refine callsIn_of_wp_marks Try.func126 rfl trivial ?_ rfl
  simp only [Try.ntmps126, List.size_toArray, List.length_cons, List.length_nil, Nat.reduceAdd, Nat.reduceSub, Array.replicate_succ, Array.replicate_zero, List.push_toArray, List.append_toArray, List.nil_append, List.cons_append]
  gi_wp2_with fail
  refine ⟨trivial, (fun h => by cases h), ?_⟩
  refine (callsIn_wide.2 (none_calls g lb _)).mono ?_
  rintro e w' ⟨rfl, rfl⟩
  gi_wp2_with fail
  have sz : ((W.alloc (.cells #[.func (.yield l) #[] #[]] 111)).alloc (.cells #[.int .i64 nn] 3)).heap.size = W.heap.size + 2 := by simp
  have hu : Upd (fun k => W.heap.size ≤ k ∧ k < W.heap.size + (c + 4)) W ((W.alloc (.cells #[.func (.yield l) #[] #[]] 111)).alloc (.cells #[.int .i64 nn] 3)) := ((Upd.refl _ W).alloc _).alloc _
  have hI0 : J [] ((W.alloc (.cells #[.func (.yield l) #[] #[]] 111)).alloc (.cells #[.int .i64 nn] 3)) := hA _ _ _ h0 hu
  refine wpIn_range (xs := xs) (c := c) (St := St) (gf := g) (lb := lb) rfl eg hit
    (fun pre A => J pre A ∧ A.cell? ⟨W.heap.size, 0, none⟩ = some (.func (.yield l) #[] #[]) ∧ A.cell? ⟨W.heap.size + 1, 0, none⟩ = some (.int .i64 (nn - pre.length)) ∧ A.frozen? ⟨W.heap.size + 1, 0, none⟩ = false)
    Jx (fun p A hp => hJ p A hp.1) ?abide ?abidex ⟨hI0, by simp [go_sem], by simp [go_sem], by simp [go_sem]⟩
    (fun x => { tmps := #[.func (.yield l) #[] #[], .pointer (some ⟨nb, 0, none⟩), .pointer (some ⟨sb, 0, none⟩), .pointer (some ⟨W.heap.size, 0, none⟩), .pointer (some ⟨W.heap.size + 1, 0, none⟩), .int .u32 x, .int .i64 nn, .int .i64 nn, .bool (decide (nn < 1)), .func (.func g) #[] lb, .func (.func g) #[] lb, .int .u32 x, undef, undef, undef, undef, undef, undef, undef, undef, undef, undef], defers := [] })
    ?assign ?body ?done ?stop
  case abide =>
    rintro p A A' ⟨h1, h2, h3, h4⟩ hu'
    rw [sz] at hu'
    have b1 : ¬ (W.heap.size + 2 ≤ W.heap.size ∧ W.heap.size < W.heap.size + 2 + (c + 2)) := by omega
    have b2 : ¬ (W.heap.size + 2 ≤ W.heap.size + 1 ∧ W.heap.size + 1 < W.heap.size + 2 + (c + 2)) := by omega
    exact ⟨hA p A A' h1 (hu'.mono (fun k _ hk => ⟨by omega, by omega⟩)), (World.cell?_of_block (a := ⟨W.heap.size, 0, none⟩) (hu'.block _ (lt_of_cell h2) b1)).trans h2, (World.cell?_of_block (a := ⟨W.heap.size + 1, 0, none⟩) (hu'.block _ (lt_of_cell h3) b2)).trans h3, (World.frozen?_of_block (a := ⟨W.heap.size + 1, 0, none⟩) (hu'.block _ (lt_of_cell h3) b2)).trans h4⟩
  case abidex =>
    intro p A A' h1 hu'
    rw [sz] at hu'
    exact hAx p A A' h1 (hu'.mono (fun k _ hk => ⟨by omega, by omega⟩))
  case assign =>
    intro l' m x A K hK
    gi_wp2
    exact hK
  case body =>
    rintro l' m pre x A ⟨h1, h2, h3, h4⟩ hpre hsz
    rw [sz] at hsz
    have hlp : (pre.length : Int) + 1 ≤ xs.length := by have := hpre.length_le; simp at this; omega
    have hA2 : Upd (fun k => W.heap.size ≤ k ∧ k < W.heap.size + (c + 4)) A (A.setCell ⟨W.heap.size + 1, 0, none⟩ (.int .i64 (nn - pre.length - 1))) := (Upd.refl _ A).setCell (p := ⟨W.heap.size + 1, 0, none⟩) (.inl (by constructor <;> (dsimp only; omega))) _
    have hJ2 := hA _ _ _ h1 hA2
    obtain ⟨fn, tmps, assign, body, hy, hR'⟩ := hR (m - 1) pre x _ hJ2 hpre (by simp; omega)
    rw [sz]
    gi_wp2
    refine ⟨(fun h => by cases h), ?_⟩
    refine RoundIn.mono (F := Fence.wide.inRound l') hR' ?_
    have hother : ∀ k, W.heap.size + 2 ≤ k → k < W.heap.size + 2 + 2 + c → (A.setCell ⟨W.heap.size + 1, 0, none⟩ (.int .i64 (nn - pre.length - 1))).heap[k]? = A.heap[k]? := fun k q1 q2 =>
      ((Upd.refl (fun j => j = W.heap.size + 1) A).setCell (p := ⟨W.heap.size + 1, 0, none⟩) (Or.inl rfl) _).block k (by omega) (by omega)
    rintro e A3 ⟨hsame, hz3, (⟨rfl, hJ3⟩ | ⟨rfl, hJx3⟩)⟩
    · have c3 : A3.cell? ⟨W.heap.size + 1, 0, none⟩ = some (.int .i64 (nn - pre.length - 1)) := by
        rw [World.cell?_of_block (a := ⟨W.heap.size + 1, 0, none⟩) (hsame (W.heap.size + 1) (by omega) (by omega))]
        simp [go_sem, h3]
      have d3 : A3.cell? ⟨W.heap.size, 0, none⟩ = some (.func (.yield l) #[] #[]) := by
        rw [World.cell?_of_block (a := ⟨W.heap.size, 0, none⟩) (hsame W.heap.size (by omega) (by omega))]
        simp [go_sem, h2]
      have f3 : A3.frozen? ⟨W.heap.size + 1, 0, none⟩ = false := by
        rw [World.frozen?_of_block (a := ⟨W.heap.size + 1, 0, none⟩) (hsame (W.heap.size + 1) (by omega) (by omega))]
        simp [go_sem, h4]
      gi_wp2
      refine ⟨fun k q1 q2 => (hsame k (by omega) (by omega)).trans (hother k q1 q2), by simp at hz3; exact hz3, hJ3, d3, ?_, f3⟩
      rw [c3, List.length_append]
      congr 2
      push_cast
      simp
      omega
    · gi_wp2
      exact ⟨fun k q1 q2 => (hsame k (by omega) (by omega)).trans (hother k q1 q2), by simp at hz3; exact hz3, hJx3⟩
  case done =>
    rintro A ⟨h1, _⟩ hK
    rw [sz] at hK
    gi_wp2
    rw [sz]
    refine ⟨by simp, .inl ⟨_, _, rfl, run_takeDeferred hK, ?_⟩⟩
    exact ⟨_, results_none rfl _ _ _, ⟨_, rfl⟩, .inl (hA _ _ _ h1 ((Upd.refl _ A).putObj (.inl (by constructor <;> omega)) _))⟩
  case stop =>
    intro pre A hpre h1 hK
    rw [sz] at hK
    gi_wp2
    rw [sz]
    refine ⟨by simp, .inl ⟨_, _, rfl, run_takeDeferred hK, ?_⟩⟩
    exact ⟨_, results_none rfl _ _ _, ⟨_, rfl⟩, .inr ⟨pre, hpre, hAx _ _ _ h1 ((Upd.refl _ A).putObj (.inl (by constructor <;> omega)) _)⟩⟩

end Go.Proofs.Ytacanmmkhbdmlaa
