/-
  Plainly: to how many edges at levels an edge's halves of halves come.
-/
import Derived.Test.YtiacdpoldgfpbaaGreatPMeansA
namespace Go.Proofs.YtiacdpoldgfpbaaGreat
set_option linter.unusedSimpArgs false
set_option linter.unusedVariables false
set_option maxHeartbeats 600000

def seenE (f : Int) (s : Edge) (l : Int) : Edge := if f = 5 ∧ s.tag < l then ⟨l, s.to⟩ else s

noncomputable def srcL (M : St) (x : Edge) : List Edge :=
  x :: (reachL M.cs [x.to]).flatMap (fun id => match look M.cs id with | some r => [r.lo, r.hi] | none => [])

def tailE (M : St) (id l : Int) : Edge := match look M.cs id with | some r => ⟨0, (M.idOf ⟨r.form, l, r.bot, r.lo, r.hi⟩).getD 0⟩ | none => ⟨0, 0⟩

def SeenAt (f : Int) (M : St) (x : Edge) (e : Edge) (l : Int) : Prop :=
  e.to = 0 ∨ (∃ s ∈ srcL M x, e = seenE f s l) ∨ (f ≠ 5 ∧ ∃ id ∈ reachL M.cs [x.to], ∃ r, look M.cs id = some r ∧ e.tag = 0 ∧ look M.cs e.to = some ⟨r.form, l, r.bot, r.lo, r.hi⟩)

theorem src_self (M : St) (x : Edge) : x ∈ srcL M x := List.mem_cons_self ..

theorem src_child {M : St} {x : Edge} {id : Int} {r : Rec} (h : id ∈ reachL M.cs [x.to]) (hl : look M.cs id = some r) : r.lo ∈ srcL M x ∧ r.hi ∈ srcL M x := by
  unfold srcL
  have a : ∀ e, e ∈ [r.lo, r.hi] → e ∈ x :: (reachL M.cs [x.to]).flatMap (fun id => match look M.cs id with | some r => [r.lo, r.hi] | none => []) := fun e he => by
    refine List.mem_cons_of_mem _ (List.mem_flatMap.2 ⟨id, h, ?_⟩)
    rw [hl]
    exact he
  exact ⟨a _ (by simp), a _ (by simp)⟩

theorem src_reach {M : St} {x s : Edge} (h : s ∈ srcL M x) {r : Rec} (hl : look M.cs s.to = some r) : s.to ∈ reachL M.cs [x.to] := by
  unfold srcL at h
  rcases List.mem_cons.1 h with rfl | h
  · exact mem_reachL.2 (Reaches.root (by simp) (by rw [hl]; simp))
  · obtain ⟨id, h1, h2⟩ := List.mem_flatMap.1 h
    cases hk : look M.cs id with
    | none => rw [hk] at h2; cases h2
    | some q =>
      rw [hk] at h2
      have hc := Reaches.closed M.cs [x.to] id q (mem_reachL.1 h1) hk
      have hs : look M.cs s.to ≠ none := by rw [hl]; simp
      rcases List.mem_cons.1 h2 with rfl | h2
      · exact mem_reachL.2 (hc.1 hs)
      · rw [List.mem_singleton] at h2
        subst h2
        exact mem_reachL.2 (hc.2 hs)

theorem seen_own {f : Int} {M : St} {e : Edge} {l l' : Int} (h : M.leads f e l = true) (hle : l' ≤ l) (hz : e.to ≠ 0) : seenE f e l' = e := by
  unfold seenE
  rw [if_neg]
  rintro ⟨h5, h6⟩
  have := (plainB_iff.1 (leads_iff.1 h).1).2.2.2.2.2.2.2 h5 hz
  omega

theorem seenE_to (f : Int) (s : Edge) (l : Int) : (seenE f s l).to = s.to := by
  unfold seenE
  split <;> rfl

theorem seen_half {f : Int} {M : St} (hw : M.wf) {x e h : Edge} {l : Int} (hs : SeenAt f M x e l) (hh : Half f M l e h) : SeenAt f M x h (l + 1) := by
  obtain ⟨h1, h2, h3, h4, h5, h6⟩ := hh
  obtain ⟨hp, hr⟩ := leads_iff.1 h1
  obtain ⟨p1, p2, p3, p4, p5, p6, p7, p8⟩ := plainB_iff.1 hp
  obtain ⟨va, hva⟩ : ∃ va, va = viewAct M f e l := ⟨_, rfl⟩
  rw [← hva] at h4 h5 h6
  -- no node at the level
  have hout : ∀ (_ : va = .inl (vOut f l e)) (_ : e.to = 0 ∨ (f = 5 → e.tag ≤ l)) (_ : ∀ r, look M.cs e.to = some r → l < r.top), SeenAt f M x h (l + 1) := fun ho ht hno => by
    rw [ho] at h6
    by_cases hz : e.to = 0
    · left
      rcases h6 with rfl | rfl
      · show (vOut f l e).1.to = 0
        unfold vOut
        split
        · exact hz
        · split
          · exact hz
          · exact hz
      · show (vOut f l e).2.1.to = 0
        unfold vOut
        split
        · exact hz
        · split <;> rfl
    · have ht5 : f = 5 → e.tag ≤ l := fun q => by
        rcases ht with ht | ht
        · exact absurd ht hz
        · exact ht q
      rcases hs with hs | ⟨s, s1, s2⟩ | ⟨hf5, id, i1, r, i2, i3, i4⟩
      · exact absurd hs hz
      · -- the edge itself, one level down
        have hto : e.to = s.to := by rw [s2, seenE_to]
        have hkey : (f = 5 → h = ⟨l + 1, e.to⟩ ∨ h.to = 0) ∧ (f ≠ 5 → h = e ∨ h.to = 0) := by
          constructor
          · intro h5
            subst h5
            rcases h6 with rfl | rfl
            · left
              show (vOut 5 l e).1 = _
              unfold vOut
              rw [if_neg (by decide), if_pos rfl]
            · right
              show (vOut 5 l e).2.1.to = 0
              unfold vOut
              rw [if_neg (by decide), if_pos rfl]
          · intro h5
            rcases h6 with rfl | rfl
            · left
              show (vOut f l e).1 = _
              unfold vOut
              split
              · rfl
              · first | rfl | rw [if_neg h5]
            · show (vOut f l e).2.1 = e ∨ (vOut f l e).2.1.to = 0
              unfold vOut
              split
              · exact .inl rfl
              · first | exact .inr rfl | (rw [if_neg h5]; exact .inr rfl)
        by_cases h5 : f = 5
        · rcases hkey.1 h5 with q | q
          · refine .inr (.inl ⟨s, s1, ?_⟩)
            have hst : s.tag < l + 1 := by
              have := ht5 h5
              rw [s2] at this
              unfold seenE at this
              split at this
              · rename_i c; omega
              · omega
            rw [q, hto]
            unfold seenE
            rw [if_pos ⟨h5, hst⟩]
          · exact .inl q
        · rcases hkey.2 h5 with q | q
          · refine .inr (.inl ⟨s, s1, ?_⟩)
            rw [q, s2]
            unfold seenE
            rw [if_neg (fun c => h5 c.1), if_neg (fun c => h5 c.1)]
          · exact .inl q
      · have := hno _ i4
        exact absurd this (Int.lt_irrefl _)
  have hva2 := hva
  unfold viewAct at hva2
  rw [if_neg (by omega), if_neg (by rw [h1]; simp)] at hva2
  split at hva2
  · rename_i hc
    obtain ⟨rfl, hc⟩ := hc
    have he : h = e := by
      rw [hva2] at h6
      rcases h6 with rfl | rfl <;> rfl
    subst he
    by_cases hz : h.to = 0
    · exact .inl hz
    · have hlt : l < h.tag := by
        rcases hc with hc | hc
        · exact absurd hc hz
        · exact hc
      rcases hs with hs | ⟨s, s1, s2⟩ | ⟨hf5, _⟩
      · exact .inl hs
      · refine .inr (.inl ⟨s, s1, ?_⟩)
        have hse : h = s ∧ l < s.tag := by
          unfold seenE at s2
          split at s2
          · rename_i c
            rw [s2] at hlt
            simp only at hlt
            omega
          · exact ⟨s2, by rw [s2] at hlt; exact hlt⟩
        rw [hse.1]
        unfold seenE
        rw [if_neg (fun c => by have := hse.2; omega)]
      · exact absurd rfl hf5
  · rename_i hc
    have ht : e.to = 0 ∨ (f = 5 → e.tag ≤ l) := by
      by_cases hz : e.to = 0
      · exact .inl hz
      · refine .inr (fun h5 => ?_)
        by_cases hl : l < e.tag
        · exact absurd ⟨h5, .inr hl⟩ hc
        · omega
    cases hk : look M.cs e.to with
    | none =>
      rw [hk] at hva2
      exact hout hva2 ht (fun r hr => by rw [hk] at hr; cases hr)
    | some r0 =>
      rw [hk] at hva2
      simp only [] at hva2
      have g := hw.goodRec hk
      obtain ⟨f1, f2, f3⟩ := leads_some h1 hk
      by_cases hlt : l < r0.top
      · rw [if_pos hlt] at hva2
        exact hout hva2 ht (fun r hr => by rw [hk] at hr; cases hr; exact hlt)
      · rw [if_neg hlt] at hva2
        have htop : r0.top = l := by omega
        have hz : e.to ≠ 0 := fun q => by rw [q, look_low (by decide)] at hk; cases hk
        have gtb := g.tb
        -- the node and where its edges stand
        have hsrc : r0.lo ∈ srcL M x ∧ r0.hi ∈ srcL M x := by
          rcases hs with hs | ⟨s, s1, s2⟩ | ⟨hf5, id, i1, r, i2, i3, i4⟩
          · exact absurd hs hz
          · have hto : e.to = s.to := by rw [s2, seenE_to]
            rw [hto] at hk
            exact src_child (src_reach s1 hk) hk
          · rw [hk] at i4
            cases i4
            have hsc := src_child i1 i2
            exact hsc
        have hown : ∀ q : Edge, (q = r0.lo ∨ q = r0.hi) → SeenAt f M x q (l + 1) := fun q hq => by
          by_cases hqz : q.to = 0
          · exact .inl hqz
          · refine .inr (.inl ⟨q, by rcases hq with rfl | rfl <;> first | exact hsrc.1 | exact hsrc.2, ?_⟩)
            have hlq : M.leads f q (r0.bot + 1) = true := by
              rw [← f1]
              rcases hq with rfl | rfl
              · exact g.lo
              · exact g.hi
            exact (seen_own hlq (by omega) hqz).symm
        split at hva2
        · rename_i hcc
          obtain ⟨h34, hne⟩ := hcc
          rw [hva2] at h4 h5 h6
          obtain ⟨id, hid⟩ := find_there hw h4 h5
          obtain ⟨a1, a2, a3⟩ := find_old hw hid
          have hE : foundE M 0 ⟨r0.form, r0.top + 1, r0.bot, r0.lo, r0.hi⟩ = ⟨0, id⟩ := by rw [foundE_ok a1, a2]
          have htail : SeenAt f M x ⟨0, id⟩ (l + 1) := by
            refine .inr (.inr ⟨by omega, ?_⟩)
            rcases hs with hs | ⟨s, s1, s2⟩ | ⟨hf5, i, i1, r, i2, i3, i4⟩
            · exact absurd hs hz
            · have hto : e.to = s.to := by rw [s2, seenE_to]
              rw [hto] at hk
              exact ⟨s.to, src_reach s1 hk, r0, hk, rfl, by rw [← htop]; exact hid⟩
            · rw [hk] at i4
              cases i4
              exact ⟨i, i1, r, i2, rfl, hid⟩
          rcases h6 with rfl | rfl
          · show SeenAt f M x (foundE M 0 _) (l + 1)
            rw [hE]
            exact htail
          · show SeenAt f M x (if M.findErr _ = 0 then (if f = 4 then foundE M 0 _ else r0.hi) else ⟨0, 0⟩) (l + 1)
            rw [if_pos a1]
            split
            · rw [hE]; exact htail
            · exact hown _ (.inr rfl)
        · rw [hva2] at h6
          rcases h6 with rfl | rfl
          · exact hown _ (.inl rfl)
          · exact hown _ (.inr rfl)

theorem seen_desc {f : Int} {M : St} (hw : M.wf) {x e e' : Edge} {l l' : Int} (h : Desc f M e l e' l') : SeenAt f M x e l → SeenAt f M x e' l' := by
  induction h with
  | here e l => exact fun h => h
  | step h1 _ ih => exact fun h => ih (seen_half hw h h1)

theorem nodup_most {α : Type} [DecidableEq α] : ∀ {a b : List α}, a.Nodup → (∀ x, x ∈ a → x ∈ b) → a.length ≤ b.length := by
  intro a
  induction a with
  | nil => intro b _ _; exact Nat.zero_le _
  | cons x a ih =>
    intro b hn hs
    obtain ⟨h1, h2⟩ := List.nodup_cons.1 hn
    have hx : x ∈ b := hs x (List.mem_cons_self ..)
    have := ih (b := b.erase x) h2 (fun y hy => (List.mem_erase_of_ne (show y ≠ x from fun e => h1 (e ▸ hy))).2 (hs y (List.mem_cons_of_mem _ hy)))
    rw [List.length_erase_of_mem hx] at this
    have hp : 0 < b.length := List.length_pos_of_mem hx
    simp only [List.length_cons]
    omega

theorem flat_two {α β : Type} (g : α → List β) (h : ∀ x, (g x).length ≤ 2) : ∀ l : List α, (l.flatMap g).length ≤ 2 * l.length := by
  intro l
  induction l with
  | nil => exact Nat.le_refl _
  | cons x l ih =>
    rw [List.flatMap_cons, List.length_append, List.length_cons]
    have := h x
    omega

theorem flat_const {α β : Type} (g : α → List β) (k : Nat) (h : ∀ x, (g x).length ≤ k) : ∀ l : List α, (l.flatMap g).length ≤ l.length * k := by
  intro l
  induction l with
  | nil => exact Nat.zero_le _
  | cons x l ih =>
    rw [List.flatMap_cons, List.length_append, List.length_cons, Nat.add_mul]
    have := h x
    omega

theorem reach_most {M : St} {a : Int} : (reachL M.cs [a]).length ≤ M.cs.length := by
  unfold reachL
  refine Nat.le_trans (List.length_filter_le _ _) ?_
  rw [List.length_map, List.length_range]
  exact Nat.le_refl _

theorem places_few {f g : Int} {M M' : St} {V' : List (Edge × Int)} {x y : Edge} {er : Int} {n : Nat} (hn : M.n = (n : Int)) (ht : 0 ≤ x.tag) (h : Conv f g M [] x 0 M' V' y er) : V'.length ≤ n * (3 * (reachL M'.cs [x.to]).length + 1) := by
  obtain ⟨R, hR⟩ : ∃ R, R = reachL M'.cs [x.to] := ⟨_, rfl⟩
  have hs : (srcL M' x).length ≤ 2 * R.length + 1 := by
    unfold srcL
    rw [← hR, List.length_cons]
    have := flat_two (fun id => match look M'.cs id with | some r => [r.lo, r.hi] | none => []) (fun id => by split <;> simp) R
    omega
  obtain ⟨L, hL⟩ : ∃ L : List (Edge × Int), L = (List.range n).flatMap (fun l : Nat => (srcL M' x).map (fun s => (seenE f s (l : Int), (l : Int))) ++ R.map (fun id => (tailE M' id (l : Int), (l : Int)))) := ⟨_, rfl⟩
  have hlen : L.length ≤ n * (3 * R.length + 1) := by
    have := flat_const (fun l : Nat => (srcL M' x).map (fun s => (seenE f s (l : Int), (l : Int))) ++ R.map (fun id => (tailE M' id (l : Int), (l : Int)))) (3 * R.length + 1) (fun l => by rw [List.length_append, List.length_map, List.length_map]; omega) (List.range n)
    rw [List.length_range] at this
    rw [hL]
    exact this
  rw [← hR]
  refine Nat.le_trans (nodup_most h.once (fun p hp => ?_)) hlen
  rcases h.new p hp with hp | ⟨p1, p2, p3, p4⟩
  · cases hp
  · obtain ⟨e, l⟩ := p
    simp only at p1 p2 p3 p4
    obtain ⟨l, rfl⟩ : ∃ k : Nat, l = (k : Int) := ⟨l.toNat, by omega⟩
    have hseen := seen_desc (x := x) h.wf p4 (.inr (.inl ⟨x, src_self _ _, by
      unfold seenE
      split
      · rename_i c
        have := c.2
        omega
      · rfl⟩))
    rw [hL]
    refine List.mem_flatMap.2 ⟨l, by rw [List.mem_range]; omega, ?_⟩
    rcases hseen with hz | ⟨s, s1, s2⟩ | ⟨_, id, i1, r, i2, i3, i4⟩
    · exact absurd hz p3
    · exact List.mem_append_left _ (List.mem_map.2 ⟨s, s1, by rw [s2]⟩)
    · refine List.mem_append_right _ (List.mem_map.2 ⟨id, by rw [hR]; exact i1, ?_⟩)
      have hi := (idOf_iff h.wf.once _ _).1 i4
      congr 1
      unfold tailE
      rw [i2]
      show (⟨0, (M'.idOf ⟨r.form, (l : Int), r.bot, r.lo, r.hi⟩).getD 0⟩ : Edge) = e
      rw [hi]
      cases e
      simp only at i3
      rw [i3]
      rfl

end Go.Proofs.YtiacdpoldgfpbaaGreat
