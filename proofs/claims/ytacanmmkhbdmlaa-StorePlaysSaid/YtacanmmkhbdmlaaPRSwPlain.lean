/-
  The walk of the document's Sweep.
-/
import Derived.Test.YtacanmmkhbdmlaaPReachB
import Derived.Test.YtacanmmkhbdmlaaPRefB
import Derived.Test.YtacanmmkhbdmlaaPSweepA
import Derived.Laws.AppendOwnNone
namespace Go.Proofs.Ytacanmmkhbdmlaa
set_option linter.unusedSimpArgs false
set_option linter.unusedVariables false
set_option maxHeartbeats 600000
open Go.RowKit

/-- append of a row of one's own and any row. -/
theorem wpList_append_row {P : Program} {w : World} {ops : Array Oper} {rest : List Oper} {o : Oper} {a : Act} {Q : Exit → Act → World → Prop} (hgd : o.guard = none) (s x : Operand) (t : TypeId)
    (ho : o.op = .call { callee := .builtin .append, args := #[s, x], argTypes := #[t, t] })
    (base b2 : Nat) (e : TypeId) (i : TypeInfo) (z : Value) (bytes : Nat) (ht : P.underlying t = some (.slice e)) (hi : P.info? e = some i) (hz : i.zero = some z)
    (hsize : i.size = 1) (hby : i.bytes = bytes) (hzs : z.cells.size = 1)
    (v : Value) (n : Nat) (xs : List Value) (hs : a.eval s = v) (hown : w.ownsRow base e 1 v n xs)
    (xv : Value) (m : Nat) (news : List Value) (hx : a.eval x = xv) (hrow : w.ownsRow b2 e 1 xv m news) (h1 : ∀ u ∈ news, u.oneCell' = true)
    (h63 : n + m ≤ maxLen) (hbytes : (n + m) * bytes ≤ 140737488355328) (hbase : base ≤ w.heap.size)
    (h : ∀ v' w', w'.ownsRow base e 1 v' (n + m) (xs ++ news) → w.grownBy w' v.ownBlock → wpList P ops Q rest (a.put o.dst v') w') : wpList P ops Q (o :: rest) a w := by
  rcases hrow.2 with ⟨rfl, rfl⟩ | ⟨g, cap, cur, rfl, _⟩
  · have hnil : news = [] := by simpa using hrow.1
    subst hnil
    refine wpList_append_own_none hgd s x t ho base e i 1 ht hi v n xs hs hown hx (h v w (by simpa using hown) ?_)
    exact ⟨rfl, rfl, rfl, Nat.le_refl _, fun _ _ _ => rfl⟩
  · refine wpList_append_own _ hgd s x t ho base e i z 1 bytes ht hi hz hsize hby hzs (by omega) v n xs hs hown ⟨g, 0, none⟩ m cap news hx hrow.1 (fun j u hj => ?_) h1 h63 hbytes hbase (fun v' w' h2 h3 _ => h v' w' h2 h3)
    have hj' := (List.getElem?_eq_some_iff.1 hj).1
    have hl := hrow.1
    have hadd : (⟨g, 0, none⟩ : Addr).add j = ⟨g, j, none⟩ := by unfold Addr.add; split <;> simp_all
    rw [hadd, hrow.cellAt j (by omega), hj]

/-- What stays, of the first k ids. -/
def stayTo (M : St) (keep : List Int) : Nat → List (Int × Rec)
  | 0 => []
  | k + 1 => stayTo M keep k ++ (match look M.cs ((k : Int) + 2) with | some r => if ((k : Int) + 2) ∈ keep then [((k : Int) + 2, r)] else [] | none => [])

/-- What goes, of the first k ids. -/
def goneTo (M : St) (keep : List Int) : Nat → List Int
  | 0 => []
  | k + 1 => goneTo M keep k ++ (match look M.cs ((k : Int) + 2) with | some _ => if ((k : Int) + 2) ∈ keep then [] else [(k : Int) + 2] | none => [])

theorem stayTo_mem (M : St) (keep : List Int) (k : Nat) (id : Int) (r : Rec) : (id, r) ∈ stayTo M keep k ↔ id < (k : Int) + 2 ∧ look M.cs id = some r ∧ id ∈ keep := by
  induction k with
  | zero =>
    constructor
    · intro h; cases h
    · rintro ⟨h1, h2, _⟩; have := look_some h2; omega
  | succ k ih =>
    unfold stayTo
    rw [List.mem_append, ih]
    cases hl : look M.cs ((k : Int) + 2) with
    | none =>
      simp only [List.not_mem_nil, or_false]
      refine ⟨fun h => ⟨by have := h.1; omega, h.2⟩, fun h => ⟨?_, h.2⟩⟩
      rcases Int.lt_or_le id ((k : Int) + 2) with hh | hh
      · exact hh
      · obtain rfl : id = (k : Int) + 2 := by have := h.1; omega
        rw [hl] at h; cases h.2.1
    | some q =>
      dsimp only
      by_cases hm : ((k : Int) + 2) ∈ keep
      · rw [if_pos hm, List.mem_singleton]
        constructor
        · rintro (h | h)
          · exact ⟨by have := h.1; omega, h.2⟩
          · cases h; exact ⟨by omega, hl, hm⟩
        · rintro ⟨h1, h2, h3⟩
          rcases Int.lt_or_le id ((k : Int) + 2) with hh | hh
          · exact .inl ⟨hh, h2, h3⟩
          · obtain rfl : id = (k : Int) + 2 := by omega
            rw [hl] at h2; cases h2; exact .inr rfl
      · rw [if_neg hm]
        simp only [List.not_mem_nil, or_false]
        refine ⟨fun h => ⟨by have := h.1; omega, h.2⟩, fun h => ⟨?_, h.2⟩⟩
        rcases Int.lt_or_le id ((k : Int) + 2) with hh | hh
        · exact hh
        · obtain rfl : id = (k : Int) + 2 := by have := h.1; omega
          exact absurd h.2.2 hm

theorem goneTo_mem (M : St) (keep : List Int) (k : Nat) (id : Int) : id ∈ goneTo M keep k ↔ id < (k : Int) + 2 ∧ look M.cs id ≠ none ∧ id ∉ keep := by
  induction k with
  | zero =>
    constructor
    · intro h; cases h
    · rintro ⟨h1, h2, _⟩
      cases hl : look M.cs id with
      | none => exact absurd hl h2
      | some r => have := look_some hl; omega
  | succ k ih =>
    unfold goneTo
    rw [List.mem_append, ih]
    cases hl : look M.cs ((k : Int) + 2) with
    | none =>
      simp only [List.not_mem_nil, or_false]
      refine ⟨fun h => ⟨by have := h.1; omega, h.2⟩, fun h => ⟨?_, h.2⟩⟩
      rcases Int.lt_or_le id ((k : Int) + 2) with hh | hh
      · exact hh
      · obtain rfl : id = (k : Int) + 2 := by have := h.1; omega
        exact absurd hl h.2.1
    | some q =>
      dsimp only
      by_cases hm : ((k : Int) + 2) ∈ keep
      · rw [if_pos hm]
        simp only [List.not_mem_nil, or_false]
        refine ⟨fun h => ⟨by have := h.1; omega, h.2⟩, fun h => ⟨?_, h.2⟩⟩
        rcases Int.lt_or_le id ((k : Int) + 2) with hh | hh
        · exact hh
        · obtain rfl : id = (k : Int) + 2 := by have := h.1; omega
          exact absurd hm h.2.2
      · rw [if_neg hm, List.mem_singleton]
        constructor
        · rintro (h | h)
          · exact ⟨by have := h.1; omega, h.2⟩
          · subst h; exact ⟨by omega, by rw [hl]; simp, hm⟩
        · rintro ⟨h1, h2, h3⟩
          rcases Int.lt_or_le id ((k : Int) + 2) with hh | hh
          · exact .inl ⟨hh, h2, h3⟩
          · exact .inr (by omega)

theorem goneTo_rising (M : St) (keep : List Int) (k : Nat) : (goneTo M keep k).Pairwise (· < ·) := by
  induction k with
  | zero => exact List.Pairwise.nil
  | succ k ih =>
    unfold goneTo
    cases hl : look M.cs ((k : Int) + 2) with
    | none => simpa using ih
    | some q =>
      dsimp only
      split
      · simpa using ih
      · refine List.pairwise_append.2 ⟨ih, by simp, fun x hx y hy => ?_⟩
        rw [List.mem_singleton] at hy
        have := ((goneTo_mem M keep k x).1 hx).1
        omega

theorem stayTo_rising (M : St) (keep : List Int) (k : Nat) : ((stayTo M keep k).map Prod.fst).Pairwise (· < ·) := by
  induction k with
  | zero => exact List.Pairwise.nil
  | succ k ih =>
    unfold stayTo
    cases hl : look M.cs ((k : Int) + 2) with
    | none => simpa using ih
    | some q =>
      dsimp only
      split
      · rw [List.map_append]
        refine List.pairwise_append.2 ⟨ih, by simp, fun x hx y hy => ?_⟩
        obtain ⟨p, hp, rfl⟩ := List.mem_map.1 hx
        simp at hy
        have := ((stayTo_mem M keep k p.1 p.2).1 hp).1
        omega
      · simpa using ih

theorem goneTo_all (M : St) (roots : List Int) : goneTo M (reachL M.cs roots) M.cs.length = goneL M roots := by
  refine rising_eq (goneTo_rising _ _ _) (goneL_rising _ _) (fun x => ?_)
  rw [goneTo_mem, goneL_mem, mem_reachL]
  refine ⟨fun h => h.2, fun h => ⟨?_, h⟩⟩
  cases hl : look M.cs x with
  | none => exact absurd hl h.1
  | some r => have := look_some hl; omega

theorem stayTo_len (M : St) (keep : List Int) (k : Nat) : (stayTo M keep k).length ≤ k := by
  induction k with
  | zero => exact Nat.le_refl _
  | succ k ih =>
    unfold stayTo
    rw [List.length_append]
    have : ∀ o : Option Rec, (match o with | some r => if ((k : Int) + 2) ∈ keep then [((k : Int) + 2, r)] else [] | none => []).length ≤ 1 := by
      intro o
      cases o with
      | none => simp
      | some r => dsimp only; split <;> simp
    have := this (look M.cs ((k : Int) + 2))
    omega

theorem goneTo_len (M : St) (keep : List Int) (k : Nat) : (goneTo M keep k).length ≤ k := by
  induction k with
  | zero => exact Nat.le_refl _
  | succ k ih =>
    unfold goneTo
    rw [List.length_append]
    have : ∀ o : Option Rec, (match o with | some _ => if ((k : Int) + 2) ∈ keep then [] else [(k : Int) + 2] | none => []).length ≤ 1 := by
      intro o
      cases o with
      | none => simp
      | some r => dsimp only; split <;> simp
    have := this (look M.cs ((k : Int) + 2))
    omega

/-- The list of what stays, of a document's store. -/
theorem stay_all {F : Nat → Prop} {w : World} {mb : Nat} {M : St} {L : List (Int × Rec)} (h : RefRep F w mb M L) (roots : List Int) :
    (∀ id r, (id, r) ∈ stayTo M (reachL M.cs roots) M.cs.length ↔ look (sweepSt M roots).cs id = some r) ∧ ((stayTo M (reachL M.cs roots) M.cs.length).map Prod.fst).Nodup ∧
      ((stayTo M (reachL M.cs roots) M.cs.length).length : Int) = (sweepSt M roots).len ∧ ∀ p ∈ stayTo M (reachL M.cs roots) M.cs.length, p.2.ok := by
  have hmem : ∀ id r, (id, r) ∈ stayTo M (reachL M.cs roots) M.cs.length ↔ look (sweepSt M roots).cs id = some r := fun id r => by
    rw [stayTo_mem, look_sweep_some, mem_reachL]
    refine ⟨fun hh => hh.2, fun hh => ⟨?_, hh⟩⟩
    have := look_some hh.1
    omega
  have hnd := rising_nodup (stayTo_rising M (reachL M.cs roots) M.cs.length)
  refine ⟨hmem, hnd, ?_, fun p hp => ?_⟩
  · rw [sweep_len, ← h.len]
    have hns : ((stayTo M (reachL M.cs roots) M.cs.length).map Prod.fst ++ goneL M roots).Nodup := by
      refine List.nodup_append.2 ⟨hnd, goneL_nodup M roots, fun x hx y hy e => ?_⟩
      subst e
      obtain ⟨p, hp, rfl⟩ := List.mem_map.1 hx
      have := ((stayTo_mem _ _ _ p.1 p.2).1 hp).2.2
      exact (goneL_mem.1 hy).2 (mem_reachL.1 this)
    have hto : ∀ x, x ∈ (stayTo M (reachL M.cs roots) M.cs.length).map Prod.fst ++ goneL M roots → x ∈ L.map Prod.fst := fun x hx => by
      have hl : look M.cs x ≠ none := by
        rcases List.mem_append.1 hx with hx | hx
        · obtain ⟨p, hp, rfl⟩ := List.mem_map.1 hx
          rw [((stayTo_mem _ _ _ p.1 p.2).1 hp).2.1]
          simp
        · exact (goneL_mem.1 hx).1
      cases hlk : look M.cs x with
      | none => exact absurd hlk hl
      | some r => exact List.mem_map.2 ⟨(x, r), (h.mem x r).2 hlk, rfl⟩
    have hfrom : ∀ x, x ∈ L.map Prod.fst → x ∈ (stayTo M (reachL M.cs roots) M.cs.length).map Prod.fst ++ goneL M roots := fun x hx => by
      obtain ⟨p, hp, rfl⟩ := List.mem_map.1 hx
      have hl := (h.mem p.1 p.2).1 hp
      by_cases hr : Reaches M.cs roots p.1
      · exact List.mem_append_left _ (List.mem_map.2 ⟨p, (hmem p.1 p.2).2 (look_sweep_some.2 ⟨hl, hr⟩), rfl⟩)
      · exact List.mem_append_right _ (goneL_mem.2 ⟨by rw [hl]; simp, hr⟩)
    have e1 := nodup_len hns hto
    have e2 := nodup_len h.ids hfrom
    rw [List.length_append, List.length_map, List.length_map] at e1 e2
    omega
  · have hl := (look_sweep_some.1 ((hmem p.1 p.2).1 hp)).1
    exact h.fit p ((h.mem p.1 p.2).2 hl)

end Go.Proofs.Ytacanmmkhbdmlaa
