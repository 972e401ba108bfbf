/-
  Plainly: the nodes that a made edge reaches are those of its table's parts.
-/
import Derived.Test.YtoeoehbpahodnaaGreatPSmallA
import Derived.Test.YtoeoehbpahodnaaGreatPUnfBasexB
namespace Go.Proofs.YtoeoehbpahodnaaGreat
set_option linter.unusedSimpArgs false
set_option linter.unusedVariables false
set_option maxHeartbeats 600000

structure MadeBy (f : Int) (M : St) (l : Int) (lo hi e : Edge) (r : Rec) : Prop where
  here : look M.cs e.to = some r
  top : r.top = l
  form : r.form = f
  same : f = 1 ∨ f = 3 ∨ f = 5 → lo ≠ hi
  none : f = 2 ∨ f = 4 → hi.to ≠ 0
  tag : f = 5 → ¬ (hi.to = 0 ∧ lo.tag = l + 1)
  parts : (r.lo = lo ∧ r.hi = hi ∧ (f = 1 ∨ f = 2 ∨ f = 5 → r.bot = l)) ∨ ((f = 3 ∨ f = 4) ∧ ∃ x, look M.cs lo.to = some x ∧ x.top = l + 1 ∧ r.lo = x.lo ∧ (r.hi = hi ∨ r.hi = x.hi))

theorem pair_cases {f : Int} {M : St} {l : Int} {lo hi e : Edge} (hf : 1 ≤ f ∧ f ≤ 5) (h : Pair f M l lo hi e) : (e.to = lo.to ∧ ((lo = hi ∧ f ≠ 2 ∧ f ≠ 4) ∨ (hi.to = 0 ∧ f ≠ 1 ∧ f ≠ 3))) ∨ ∃ r, MadeBy f M l lo hi e r := by
  have hff : f = 1 ∨ f = 2 ∨ f = 3 ∨ f = 4 ∨ f = 5 := by omega
  have hu := h.up
  rcases hff with rfl | rfl | rfl | rfl | rfl
  · rw [mkK1] at hu
    unfold makeAct bRest at hu
    split at hu
    · rcases hu with hu | ⟨r, hu, _⟩ <;> cases hu
    · split at hu
      · rcases hu with hu | ⟨r, hu, _⟩ <;> cases hu
      · split at hu
        · rename_i hc
          rcases hu with hu | ⟨r, hu, _⟩
          · cases hu; exact .inl ⟨rfl, .inl ⟨hc, by omega, by omega⟩⟩
          · cases hu
        · rename_i hc
          rcases hu with hu | ⟨r, hu, hl, _⟩
          · cases hu
          · cases hu
            exact .inr ⟨_, hl, rfl, rfl, fun _ => hc, fun hh => by omega, fun hh => by omega, .inl ⟨rfl, rfl, fun _ => rfl⟩⟩
  · rw [mkK2] at hu
    unfold makeAct zRest at hu
    split at hu
    · rcases hu with hu | ⟨r, hu, _⟩ <;> cases hu
    · split at hu
      · rcases hu with hu | ⟨r, hu, _⟩ <;> cases hu
      · split at hu
        · rename_i hc
          rcases hu with hu | ⟨r, hu, _⟩
          · cases hu; exact .inl ⟨rfl, .inr ⟨hc, by omega, by omega⟩⟩
          · cases hu
        · rename_i hc
          rcases hu with hu | ⟨r, hu, hl, _⟩
          · cases hu
          · cases hu
            exact .inr ⟨_, hl, rfl, rfl, fun hh => by omega, fun _ => hc, fun hh => by omega, .inl ⟨rfl, rfl, fun _ => rfl⟩⟩
  · rw [mkK3] at hu
    unfold makeAct cRest at hu
    split at hu
    · rcases hu with hu | ⟨r, hu, _⟩ <;> cases hu
    · split at hu
      · rcases hu with hu | ⟨r, hu, _⟩ <;> cases hu
      · split at hu
        · rename_i hc
          rcases hu with hu | ⟨r, hu, _⟩
          · cases hu; exact .inl ⟨rfl, .inl ⟨hc, by omega, by omega⟩⟩
          · cases hu
        · rename_i hc
          have plain : ∀ {r : Rec}, r = ⟨3, l, l, lo, hi⟩ → look M.cs e.to = some r → ∃ r, MadeBy 3 M l lo hi e r := fun {r} hr hl => by
            subst hr
            exact ⟨_, hl, rfl, rfl, fun _ => hc, fun hh => by omega, fun hh => by omega, .inl ⟨rfl, rfl, fun hh => by omega⟩⟩
          split at hu
          · rcases hu with hu | ⟨r, hu, hl, _⟩
            · cases hu
            · cases hu; exact .inr (plain rfl hl)
          · rename_i x hx
            split at hu
            · rename_i ht
              split at hu
              · rcases hu with hu | ⟨r, hu, hl, _⟩
                · cases hu
                · cases hu
                  exact .inr ⟨_, hl, rfl, rfl, fun _ => hc, fun hh => by omega, fun hh => by omega, .inr ⟨.inl rfl, x, hx, ht, rfl, .inl rfl⟩⟩
              · rcases hu with hu | ⟨r, hu, hl, _⟩
                · cases hu
                · cases hu; exact .inr (plain rfl hl)
            · rcases hu with hu | ⟨r, hu, hl, _⟩
              · cases hu
              · cases hu; exact .inr (plain rfl hl)
  · rw [mkK4] at hu
    unfold makeAct qRest at hu
    split at hu
    · rcases hu with hu | ⟨r, hu, _⟩ <;> cases hu
    · split at hu
      · rcases hu with hu | ⟨r, hu, _⟩ <;> cases hu
      · split at hu
        · rename_i hc
          rcases hu with hu | ⟨r, hu, _⟩
          · cases hu; exact .inl ⟨rfl, .inr ⟨hc, by omega, by omega⟩⟩
          · cases hu
        · rename_i hc
          have plain : ∀ {r : Rec}, r = ⟨4, l, l, lo, hi⟩ → look M.cs e.to = some r → ∃ r, MadeBy 4 M l lo hi e r := fun {r} hr hl => by
            subst hr
            exact ⟨_, hl, rfl, rfl, fun hh => by omega, fun _ => hc, fun hh => by omega, .inl ⟨rfl, rfl, fun hh => by omega⟩⟩
          split at hu
          · rcases hu with hu | ⟨r, hu, hl, _⟩
            · cases hu
            · cases hu; exact .inr (plain rfl hl)
          · rename_i x hx
            split at hu
            · split at hu
              · rename_i ht
                rcases hu with hu | ⟨r, hu, hl, _⟩
                · cases hu
                · cases hu
                  exact .inr ⟨_, hl, rfl, rfl, fun hh => by omega, fun _ => hc, fun hh => by omega, .inr ⟨.inr rfl, x, hx, ht, rfl, .inr rfl⟩⟩
              · rcases hu with hu | ⟨r, hu, hl, _⟩
                · cases hu
                · cases hu; exact .inr (plain rfl hl)
            · rcases hu with hu | ⟨r, hu, hl, _⟩
              · cases hu
              · cases hu; exact .inr (plain rfl hl)
  · rw [mkK5] at hu
    unfold tAct at hu
    split at hu
    · rcases hu with hu | ⟨r, hu, _⟩ <;> cases hu
    · split at hu
      · rcases hu with hu | ⟨r, hu, _⟩ <;> cases hu
      · split at hu
        · rename_i hc
          rcases hu with hu | ⟨r, hu, _⟩
          · cases hu; exact .inl ⟨rfl, .inl ⟨hc, by omega, by omega⟩⟩
          · cases hu
        · rename_i hc
          split at hu
          · rename_i hz
            rcases hu with hu | ⟨r, hu, _⟩
            · cases hu; exact .inl ⟨rfl, .inr ⟨hz.1, by omega, by omega⟩⟩
            · cases hu
          · rename_i hz
            rcases hu with hu | ⟨r, hu, hl, _⟩
            · cases hu
            · cases hu
              exact .inr ⟨_, hl, rfl, rfl, fun _ => hc, fun hh => by omega, fun _ => hz, .inl ⟨rfl, rfl, fun _ => rfl⟩⟩

theorem endE_low (f : Int) (b : Bool) (l : Int) : (endE f b l).to < 2 := by
  unfold endE
  split
  · split
    · show (1 : Int) < 2; omega
    · show (1 : Int) < 2; omega
  · show (0 : Int) < 2; omega

theorem root_part {f : Int} {M : St} (hf : 1 ≤ f ∧ f ≤ 5) : ∀ (k : Nat) (ts : List Bool) (l : Int) (e : Edge), IsT f M k ts l e → look M.cs e.to ≠ none → IsPart f M k ts l e.to := by
  intro k
  induction k with
  | zero =>
    intro ts l e h hl
    obtain ⟨b, _, rfl⟩ := h
    exact absurd (look_low (endE_low f b l)) hl
  | succ k ih =>
    intro ts l e h hl
    obtain ⟨hlen, lo, hi, h1, h2, h3⟩ := id h
    rcases pair_cases hf h3 with ⟨he, _⟩ | ⟨r, hr⟩
    · rw [he]
      rw [he] at hl
      exact (ih _ _ _ h1 hl).lo
    · exact ⟨k, ts, l, e, r, .here _ _ _, h, rfl, hr.here, hr.top⟩

theorem child_part {f : Int} {M : St} (hw : M.wf) (hf : 1 ≤ f ∧ f ≤ 5) : ∀ (k : Nat) (ts : List Bool) (l : Int) (e : Edge), IsT f M k ts l e → l + (k : Int) = M.n → ∀ r, look M.cs e.to = some r → r.top = l → (look M.cs r.lo.to ≠ none → IsPart f M k ts l r.lo.to) ∧ (look M.cs r.hi.to ≠ none → IsPart f M k ts l r.hi.to) := by
  intro k
  induction k with
  | zero =>
    intro ts l e h hn r hl
    obtain ⟨b, _, rfl⟩ := h
    rw [look_low (endE_low f b l)] at hl
    cases hl
  | succ k ih =>
    intro ts l e h hn r hl ht
    obtain ⟨hlen, lo, hi, h1, h2, h3⟩ := id h
    rcases pair_cases hf h3 with ⟨he, _⟩ | ⟨r', hr⟩
    · rw [he] at hl
      have := IsT.top hw hf h1 (by push_cast at hn; omega) hl
      omega
    · have hrr : r = r' := by rw [hr.here] at hl; cases hl; rfl
      subst hrr
      rcases hr.parts with ⟨p1, p2, _⟩ | ⟨_, x, hx, hxt, p1, p2⟩
      · rw [p1, p2]
        exact ⟨fun hh => (root_part hf _ _ _ _ h1 hh).lo, fun hh => (root_part hf _ _ _ _ h2 hh).hi⟩
      · obtain ⟨c1, c2⟩ := ih _ _ _ h1 (by push_cast at hn; omega) x hx hxt
        rw [p1]
        refine ⟨fun hh => (c1 hh).lo, fun hh => ?_⟩
        rcases p2 with p2 | p2
        · rw [p2] at hh ⊢
          exact (root_part hf _ _ _ _ h2 hh).hi
        · rw [p2] at hh ⊢
          exact (c2 hh).lo

theorem reach_part {f : Int} {M : St} (hw : M.wf) (hf : 1 ≤ f ∧ f ≤ 5) {k : Nat} {ts : List Bool} {l : Int} {e : Edge} (h : IsT f M k ts l e) (hn : l + (k : Int) = M.n) {id : Int} (hr : Reaches M.cs [e.to] id) : IsPart f M k ts l id := by
  refine hr (IsPart f M k ts l) (fun x hx hl => ?_) (fun x q hx hq => ?_)
  · rw [List.mem_singleton] at hx
    subst hx
    exact root_part hf _ _ _ _ h hl
  · obtain ⟨k', s, j, e', r, h1, h2, rfl, h4, h5⟩ := hx
    rw [h4] at hq
    cases hq
    have hlev := h1.level
    obtain ⟨c1, c2⟩ := child_part hw hf _ _ _ _ h2 (by omega) q h4 h5
    exact ⟨fun hh => (c1 hh).up h1, fun hh => (c2 hh).up h1⟩

theorem part_reach {f : Int} {M : St} (hw : M.wf) (hf : f = 1 ∨ f = 2) {k k' : Nat} {ts s : List Bool} {l j : Int} (h : SubT k ts l k' s j) : ∀ {e : Edge}, IsT f M k ts l e → ∃ e', IsT f M k' s j e' ∧ (look M.cs e'.to ≠ none → Reaches M.cs [e.to] e'.to) := by
  have hf5 : 1 ≤ f ∧ f ≤ 5 := by omega
  induction h with
  | here => intro e he; exact ⟨e, he, fun hl => Reaches.root (by simp) hl⟩
  | @lo k ts l k' s j _ ih =>
    intro e he
    obtain ⟨_, lo, hi, h1, h2, h3⟩ := id he
    obtain ⟨e', i1, i2⟩ := ih h1
    refine ⟨e', i1, fun hl => ?_⟩
    have hr := i2 hl
    rcases pair_cases hf5 h3 with ⟨q, _⟩ | ⟨r, hr'⟩
    · rw [q]; exact hr
    · have hroot : Reaches M.cs [e.to] e.to := Reaches.root (by simp) (by rw [hr'.here]; simp)
      have hc := Reaches.closed M.cs [e.to] e.to r hroot hr'.here
      rcases hr'.parts with ⟨p1, _⟩ | ⟨p, _⟩
      · rw [p1] at hc
        exact hr.below (fun y hy hly => by rw [List.mem_singleton] at hy; subst hy; exact hc.1 hly)
      · omega
  | @hi k ts l k' s j _ ih =>
    intro e he
    obtain ⟨_, lo, hi, h1, h2, h3⟩ := id he
    obtain ⟨e', i1, i2⟩ := ih h2
    refine ⟨e', i1, fun hl => ?_⟩
    have hr := i2 hl
    rcases pair_cases hf5 h3 with ⟨q, q2⟩ | ⟨r, hr'⟩
    · rcases q2 with ⟨q2, _⟩ | ⟨q2, _⟩
      · rw [q, q2]; exact hr
      · exact (hr (fun _ => False) (fun x hx hxl => by rw [List.mem_singleton] at hx; subst hx; exact hxl (look_low (by omega))) (fun _ _ hh _ => hh.elim)).elim
    · have hroot : Reaches M.cs [e.to] e.to := Reaches.root (by simp) (by rw [hr'.here]; simp)
      have hc := Reaches.closed M.cs [e.to] e.to r hroot hr'.here
      rcases hr'.parts with ⟨_, p2, _⟩ | ⟨p, _⟩
      · rw [p2] at hc
        exact hr.below (fun y hy hly => by rw [List.mem_singleton] at hy; subst hy; exact hc.2 hly)
      · omega

theorem nodup_mapI {g : Int → Int} : ∀ {a : List Int}, a.Nodup → (∀ x y, x ∈ a → y ∈ a → g x = g y → x = y) → (a.map g).Nodup := by
  intro a
  induction a with
  | nil => intro _ _; exact List.nodup_nil
  | cons x a ih =>
    intro hn hinj
    have hn2 := List.nodup_cons.1 hn
    refine List.nodup_cons.2 ⟨fun hm => ?_, ih hn2.2 (fun y z hy hz => hinj y z (List.mem_cons_of_mem _ hy) (List.mem_cons_of_mem _ hz))⟩
    obtain ⟨y, hy, he⟩ := List.mem_map.1 hm
    have := hinj y x (List.mem_cons_of_mem _ hy) List.mem_cons_self he
    subst this
    exact hn2.1 hy

theorem reach_le {M : St} {a b : Int} (R : Int → Int → Prop) (h1 : ∀ x, Reaches M.cs [a] x → ∃ y, R x y ∧ Reaches M.cs [b] y) (h2 : ∀ x x' y, R x y → R x' y → x = x') : (reachL M.cs [a]).length ≤ (reachL M.cs [b]).length := by
  have hc : ∃ φ : Int → Int, ∀ x, Reaches M.cs [a] x → R x (φ x) ∧ Reaches M.cs [b] (φ x) := by
    have : ∀ x, ∃ y, Reaches M.cs [a] x → R x y ∧ Reaches M.cs [b] y := fun x => by
      by_cases hx : Reaches M.cs [a] x
      · obtain ⟨y, hy⟩ := h1 x hx; exact ⟨y, fun _ => hy⟩
      · exact ⟨0, fun hh => absurd hh hx⟩
    exact ⟨fun x => Classical.choose (this x), fun x => Classical.choose_spec (this x)⟩
  obtain ⟨φ, hφ⟩ := hc
  have hn := nodup_mapI (g := φ) (rising_nodup (reachL_rising M.cs [a])) (fun x y hx hy he => h2 x y (φ x) (hφ x (mem_reachL.1 hx)).1 (by rw [he]; exact (hφ y (mem_reachL.1 hy)).1))
  have := nodup_len hn (b := reachL M.cs [b]) (fun y hy => by
    obtain ⟨x, hx, rfl⟩ := List.mem_map.1 hy
    exact mem_reachL.2 (hφ x (mem_reachL.1 hx)).2)
  rwa [List.length_map] at this

theorem small_of {f g : Int} {M : St} (hw : M.wf) (hf : 1 ≤ f ∧ f ≤ 5) (hg : g = 1 ∨ g = 2) {k : Nat} {ts : List Bool} {l : Int} {e d : Edge} (h : IsT f M k ts l e) (h' : IsT g M k ts l d) (hn : l + (k : Int) = M.n)
    (htwin : ∀ k' s j ef eg r, IsT f M (k' + 1) s j ef → look M.cs ef.to = some r → r.top = j → j + ((k' + 1 : Nat) : Int) = M.n → IsT g M (k' + 1) s j eg → ∃ q, look M.cs eg.to = some q ∧ q.top = j) : (reachL M.cs [e.to]).length ≤ (reachL M.cs [d.to]).length := by
  refine reach_le (Twin f g M k ts l) (fun x hx => ?_) (fun x x' y => Twin.inj hw hg hn)
  obtain ⟨k', s, j, ef, r, a1, a2, a3, a4, a5⟩ := reach_part hw hf h hn hx
  obtain ⟨eg, b1, b2⟩ := part_reach hw hg a1 h'
  have hlev := a1.level
  obtain ⟨q, c1, c2⟩ := htwin k' s j ef eg r a2 (by rw [a3]; exact a4) a5 (by omega) b1
  exact ⟨eg.to, ⟨k', s, j, ef, eg, q, a1, a2, a3, b1, rfl, c1, c2⟩, b2 (by rw [c1]; simp)⟩

theorem zero_tag {f : Int} {M : St} {e : Edge} {l : Int} (h : M.leads f e l = true) (hz : e.to = 0) : e.tag = 0 := by
  have h1 := (leads_cases h).1
  unfold plainB at h1
  split at h1
  · cases h1
  · rw [if_pos (by simp [hz])] at h1
    simpa using h1

theorem zero_iff {f : Int} {M : St} (hw : M.wf) (hf : 1 ≤ f ∧ f ≤ 5) : ∀ (k : Nat) (ts : List Bool) (l : Int) (e : Edge), IsT f M k ts l e → l + (k : Int) = M.n → (e.to = 0 ↔ noneL ts = true) := by
  intro k
  induction k with
  | zero =>
    intro ts l e h _
    obtain ⟨b, rfl, rfl⟩ := h
    cases b
    · exact ⟨fun _ => rfl, fun _ => rfl⟩
    · refine ⟨fun hh => ?_, fun hh => by cases hh⟩
      exfalso
      have : (endE f true l).to = 1 := by unfold endE; split; split <;> rfl; rename_i h; exact absurd rfl h
      omega
  | succ k ih =>
    intro ts l e h hn
    obtain ⟨_, lo, hi, h1, h2, h3⟩ := id h
    have i1 := ih _ _ _ h1 (by push_cast at hn; omega)
    have i2 := ih _ _ _ h2 (by push_cast at hn; omega)
    rw [noneL_halves (2 ^ k) ts, Bool.and_eq_true, ← i1, ← i2]
    rcases pair_cases hf h3 with ⟨q, q2⟩ | ⟨r, hr⟩
    · rw [q]
      rcases q2 with ⟨q2, _⟩ | ⟨q2, _⟩
      · rw [q2]; exact ⟨fun hh => ⟨hh, hh⟩, fun hh => hh.1⟩
      · exact ⟨fun hh => ⟨hh, q2⟩, fun hh => hh.1⟩
    · have h2' := (look_some hr.here).1
      refine ⟨fun hh => by omega, fun hh => ?_⟩
      exfalso
      have t1 : lo.tag = 0 := zero_tag h3.lo hh.1
      have t2 : hi.tag = 0 := zero_tag h3.hi hh.2
      by_cases hfz : f = 2 ∨ f = 4
      · exact hr.none hfz hh.2
      · refine hr.same (by omega) ?_
        cases lo
        cases hi
        simp only at t1 t2 hh
        rw [t1, t2, hh.1, hh.2]

theorem own_halves {f : Int} {M : St} (hw : M.wf) (hf : 1 ≤ f ∧ f ≤ 5) {k : Nat} {s : List Bool} {j : Int} {e : Edge} {r : Rec} (h : IsT f M (k + 1) s j e) (hl : look M.cs e.to = some r) (ht : r.top = j) (hn : j + ((k + 1 : Nat) : Int) = M.n) :
    ∃ lo hi, IsT f M k (s.take (2 ^ k)) (j + 1) lo ∧ IsT f M k (s.drop (2 ^ k)) (j + 1) hi ∧ Pair f M j lo hi e ∧ MadeBy f M j lo hi e r := by
  obtain ⟨_, lo, hi, h1, h2, h3⟩ := id h
  rcases pair_cases hf h3 with ⟨q, _⟩ | ⟨r', hr⟩
  · rw [q] at hl
    have := IsT.top hw hf h1 (by push_cast at hn; omega) hl
    omega
  · have : r = r' := by have := hr.here; rw [hl] at this; cases this; rfl
    subst this
    exact ⟨lo, hi, h1, h2, h3, hr⟩

theorem small_one {f : Int} {M : St} (hw : M.wf) (hf : f = 3 ∨ f = 5) {k : Nat} {ts : List Bool} {l : Int} {e d : Edge} (h : IsT f M k ts l e) (h' : IsT 1 M k ts l d) (hn : l + (k : Int) = M.n) : (reachL M.cs [e.to]).length ≤ (reachL M.cs [d.to]).length := by
  refine small_of hw (by omega) (.inl rfl) h h' hn (fun k' s j ef eg r a1 a2 a3 a4 a5 => ?_)
  obtain ⟨lo, hi, b1, b2, b3, b4⟩ := own_halves hw (by omega) a1 a2 a3 a4
  obtain ⟨_, lo1, hi1, c1, c2, c3⟩ := id a5
  rcases pair_cases (by omega) c3 with ⟨q, q2⟩ | ⟨q, hq⟩
  · exfalso
    rcases q2 with ⟨q2, _⟩ | ⟨_, q2, _⟩
    · subst q2
      have es := IsT.inj hw _ _ _ _ _ c1 c2
      rw [es] at b1
      exact b4.same (by omega) (IsT.det hw _ _ _ _ _ b1 b2)
    · exact q2 rfl
  · exact ⟨q, hq.here, hq.top⟩

theorem small_two {M : St} (hw : M.wf) {k : Nat} {ts : List Bool} {l : Int} {e d : Edge} (h : IsT 4 M k ts l e) (h' : IsT 2 M k ts l d) (hn : l + (k : Int) = M.n) : (reachL M.cs [e.to]).length ≤ (reachL M.cs [d.to]).length := by
  refine small_of hw (by omega) (.inr rfl) h h' hn (fun k' s j ef eg r a1 a2 a3 a4 a5 => ?_)
  obtain ⟨lo, hi, b1, b2, b3, b4⟩ := own_halves hw (by omega) a1 a2 a3 a4
  obtain ⟨_, lo1, hi1, c1, c2, c3⟩ := id a5
  rcases pair_cases (by omega) c3 with ⟨q, q2⟩ | ⟨q, hq⟩
  · exfalso
    rcases q2 with ⟨_, q2, _⟩ | ⟨q2, _⟩
    · exact q2 rfl
    · have hz := (zero_iff hw (by omega) _ _ _ _ c2 (by push_cast at a4; omega)).1 q2
      exact b4.none (.inr rfl) ((zero_iff hw (by omega) _ _ _ _ b2 (by push_cast at a4; omega)).2 hz)
  · exact ⟨q, hq.here, hq.top⟩

end Go.Proofs.YtoeoehbpahodnaaGreat

namespace Go.Proofs.YtoeoehbpahodnaaGreat
set_option linter.unusedSimpArgs false
set_option linter.unusedVariables false
set_option maxHeartbeats 600000

theorem five_same {M : St} {l : Int} {lo hi e : Edge} (h : Pair 5 M l lo hi e) (ht : e.tag ≠ l) : lo = hi := by
  have hu := h.up
  rw [mkK5] at hu
  unfold tAct at hu
  split at hu
  · rcases hu with hu | ⟨r, hu, _⟩ <;> cases hu
  · split at hu
    · rcases hu with hu | ⟨r, hu, _⟩ <;> cases hu
    · split at hu
      · assumption
      · split at hu
        · rcases hu with hu | ⟨r, hu, _⟩
          · cases hu; exact absurd rfl ht
          · cases hu
        · rcases hu with hu | ⟨r, hu, _, h3⟩
          · cases hu
          · cases hu
            exact absurd h3 ht

theorem small_tz {M : St} (hw : M.wf) {k : Nat} {ts : List Bool} {l : Int} {e d : Edge} (h : IsT 5 M k ts l e) (h' : IsT 2 M k ts l d) (hn : l + (k : Int) = M.n) : (reachL M.cs [e.to]).length ≤ (reachL M.cs [d.to]).length := by
  refine reach_le (TwinZ M) (fun x hx => ?_) (fun x x' y => TwinZ.inj hw)
  obtain ⟨k', s, j, ef, r, a1, a2, a3, a4, a5⟩ := reach_part hw (by omega) h hn hx
  have hlev := a1.level
  have hj : j + ((k' + 1 : Nat) : Int) = M.n := by omega
  obtain ⟨lo, hi, b1, b2, b3, b4⟩ := own_halves hw (by omega) a2 (by rw [a3]; exact a4) a5 hj
  have hj1 : j + 1 + (k' : Int) = M.n := by push_cast at hj; omega
  have hne : lo ≠ hi := b4.same (.inr (.inr rfl))
  by_cases hz : hi.to = 0
  · have ht : lo.tag ≠ j + 1 := fun hh => b4.tag rfl ⟨hz, hh⟩
    have hhz := (zero_iff hw (by omega) _ _ _ _ b2 hj1).1 hz
    have hlz : lo.to ≠ 0 := fun hh => by
      have t1 := zero_tag b3.lo hh
      have t2 := zero_tag b3.hi hz
      refine hne ?_
      cases lo
      cases hi
      simp only at hh hz t1 t2
      rw [hh, hz, t1, t2]
    cases k' with
    | zero =>
      exfalso
      obtain ⟨b, _, hb⟩ := b1
      cases b
      · rw [hb] at hlz; exact hlz rfl
      · rw [hb] at ht; exact ht rfl
    | succ k2 =>
      obtain ⟨_, lo', hi', c1, c2, c3⟩ := id b1
      have hsame := five_same c3 ht
      subst hsame
      have es := IsT.inj hw _ _ _ _ _ c1 c2
      have hsub := a1.trans (SubT.lo (SubT.here (k2 + 1) (s.take (2 ^ (k2 + 1))) (j + 1)))
      obtain ⟨eg, g1, g2⟩ := part_reach hw (.inr rfl) hsub h'
      obtain ⟨_, lo2, hi2, m1, m2, m3⟩ := id g1
      rcases pair_cases (by omega) m3 with ⟨q, q2⟩ | ⟨q, hq⟩
      · exfalso
        rcases q2 with ⟨_, q2, _⟩ | ⟨q2, _⟩
        · exact q2 rfl
        · have hj2 : j + 1 + 1 + (k2 : Int) = M.n := by push_cast at hj1; omega
          have hdz := (zero_iff hw (by omega) _ _ _ _ m2 hj2).1 q2
          refine hlz ((zero_iff hw (by omega) _ _ _ _ b1 hj1).2 ?_)
          rw [noneL_halves (2 ^ k2), es, hdz]
          rfl
      · refine ⟨eg.to, ⟨k2, s.take (2 ^ (k2 + 1)), j + 1, eg, q, hj1, g1, rfl, hq.here, hq.top, .inr ⟨es, s, ef, ?_, a3, rfl, hhz⟩⟩, g2 (by rw [hq.here]; simp)⟩
        rw [show j + 1 - 1 = j by omega]
        exact a2
  · obtain ⟨eg, g1, g2⟩ := part_reach hw (.inr rfl) a1 h'
    obtain ⟨_, lo2, hi2, m1, m2, m3⟩ := id g1
    rcases pair_cases (by omega) m3 with ⟨q, q2⟩ | ⟨q, hq⟩
    · exfalso
      rcases q2 with ⟨_, q2, _⟩ | ⟨q2, _⟩
      · exact q2 rfl
      · have hdz := (zero_iff hw (by omega) _ _ _ _ m2 hj1).1 q2
        exact hz ((zero_iff hw (by omega) _ _ _ _ b2 hj1).2 hdz)
    · refine ⟨eg.to, ⟨k', s, j, eg, q, hj, g1, rfl, hq.here, hq.top, .inl ⟨fun hs => ?_, ef, a2, a3⟩⟩, g2 (by rw [hq.here]; simp)⟩
      rw [hs] at b1
      exact hne (IsT.det hw _ _ _ _ _ b1 b2)

end Go.Proofs.YtoeoehbpahodnaaGreat
