/-
  Each text one node; how many nodes a text has.
-/
import Derived.Test.YtacanmmkhbdmlaaPPartsP
import Derived.Test.YtacanmmkhbdmlaaPSoundP
namespace Go.Proofs.Ytacanmmkhbdmlaa
set_option linter.unusedSimpArgs false
set_option linter.unusedVariables false
set_option maxHeartbeats 600000

theorem cons_split {a b : UInt8} {u v : List UInt8} (h : a :: u = b :: v) : a = b ∧ u = v := List.cons.inj h

/-- Ahead of a leaf or a bracket: the same tag. -/
theorem edge_eq {f : Int} {M : St} {e e' : Edge} {l l' : Int} {n n' : Nat} (hM : Fine f M) (h : At f M e l n) (h' : At f M e' l' n') (ht : e.to = e'.to) (hp : f = 5 → e.to ≠ 0 → dB e.tag = dB e'.tag) : e = e' := by
  obtain ⟨a0, a1, a2, _⟩ := h.tag hM
  obtain ⟨b0, b1, b2, _⟩ := h'.tag hM
  have : e.tag = e'.tag := by
    by_cases hc : f = 5 ∧ e.to ≠ 0
    · exact dB_inj a0 a1 b0 b1 (hp hc.1 hc.2)
    · have h1 : f ≠ 5 ∨ e.to = 0 := by
        by_cases h5 : f = 5
        · right; exact Classical.byContradiction fun hn => hc ⟨h5, hn⟩
        · exact .inl h5
      rw [a2 h1, b2 (by rw [← ht]; exact h1)]
  cases e
  cases e'
  simp only at ht this
  rw [ht, this]

theorem rec_eq {f : Int} {r r' : Rec} (h1 : r.form = f) (h2 : r'.form = f) (h3 : r.top = r'.top) (h4 : r.bot = r'.bot) (h5 : r.lo = r'.lo) (h6 : r.hi = r'.hi) : r = r' := by
  cases r
  cases r'
  simp only at h1 h2 h3 h4 h5 h6
  rw [h1, h2, h3, h4, h5, h6]

/-- A text tells its edge, whatever follows. -/
theorem text_inj {f : Int} {M : St} (hM : Fine f M) : ∀ (n n' : Nat) (e e' : Edge) (l l' : Int) (x x' : List UInt8), At f M e l n → At f M e' l' n' → x.head? ≠ some 64 → x'.head? ≠ some 64 → unfL f M n e ++ x = unfL f M n' e' ++ x' → e = e' ∧ x = x' := by
  intro n
  induction n with
  | zero => intro n' e e' l l' x x' h; obtain ⟨m, hm⟩ := h.pos hM; omega
  | succ n ih =>
    intro n' e e' l l' x x' h h' hx hx' heq
    obtain ⟨n', rfl⟩ := h'.pos hM
    obtain ⟨a0, a1, a2, _⟩ := h.tag hM
    obtain ⟨b0, b1, b2, _⟩ := h'.tag hM
    have da := dB_flat a0 a1
    have db := dB_flat b0 b1
    have hnode : ∀ {k : Nat} {r : Rec} {y : List UInt8}, ∃ u, nodeL f M k r ++ y = 40 :: u := fun {k r y} => ⟨_, rfl⟩
    rcases h.cases hM with ⟨h0, h2⟩ | ⟨r, hl, hf, _, tb, _, t0, t1, bb, hch, hlo, hhi⟩
    · rw [unfL_leaf h0 h2] at heq
      rcases h'.cases hM with ⟨h0', h2'⟩ | ⟨r', hl', _⟩
      · rw [unfL_leaf h0' h2'] at heq
        unfold leafL at heq
        by_cases h5 : f = 5
        · rw [if_pos h5, if_pos h5] at heq
          by_cases z : e.to = 0
          · by_cases z' : e'.to = 0
            · rw [if_pos z, if_pos z'] at heq
              obtain ⟨_, q⟩ := cons_split heq
              exact ⟨edge_eq hM h h' (by omega) (fun _ hn => absurd z hn), q⟩
            · rw [if_pos z, if_neg z'] at heq
              obtain ⟨_, q⟩ := cons_split heq
              exact absurd (by rw [show x = 64 :: (49 :: x') from q]; rfl) hx
          · by_cases z' : e'.to = 0
            · rw [if_neg z, if_pos z'] at heq
              obtain ⟨_, q⟩ := cons_split heq
              exact absurd (by rw [show x' = 64 :: (49 :: x) from q.symm]; rfl) hx'
            · rw [if_neg z, if_neg z'] at heq
              obtain ⟨q1, q⟩ := cons_split heq
              obtain ⟨_, q⟩ := cons_split q
              obtain ⟨_, q⟩ := cons_split q
              exact ⟨edge_eq hM h h' (by omega) (fun _ _ => q1), q⟩
        · rw [if_neg h5, if_neg h5] at heq
          obtain ⟨q1, q⟩ := cons_split heq
          exact ⟨edge_eq hM h h' (dB_inj h0 (by omega) h0' (by omega) q1) (fun hh => absurd hh h5), q⟩
      · rw [unfL_node hl', List.append_assoc] at heq
        obtain ⟨u, hu⟩ := hnode (k := n') (r := r') (y := x')
        rw [hu] at heq
        unfold leafL preL at heq
        by_cases h5 : f = 5
        · rw [if_pos h5, if_pos h5] at heq
          by_cases z : e.to = 0
          · rw [if_pos z] at heq
            obtain ⟨_, q⟩ := cons_split heq
            exact absurd (by rw [show x = 64 :: (40 :: u) from q]; rfl) hx
          · rw [if_neg z] at heq
            obtain ⟨_, q⟩ := cons_split heq
            obtain ⟨_, q⟩ := cons_split q
            obtain ⟨q, _⟩ := cons_split q
            exact absurd q (by decide)
        · rw [if_neg h5, if_neg h5] at heq
          obtain ⟨q1, _⟩ := cons_split heq
          exact absurd q1 (dB_flat h0 (by omega)).1
    · have hl2 := (look_some hl).1
      rw [unfL_node hl, List.append_assoc] at heq
      rcases h'.cases hM with ⟨h0', h2'⟩ | ⟨r', hl', hf', _, tb', _, t0', t1', bb', hch', hlo', hhi'⟩
      · rw [unfL_leaf h0' h2'] at heq
        obtain ⟨u, hu⟩ := hnode (k := n) (r := r) (y := x)
        rw [hu] at heq
        unfold leafL preL at heq
        by_cases h5 : f = 5
        · rw [if_pos h5, if_pos h5] at heq
          by_cases z : e'.to = 0
          · rw [if_pos z] at heq
            obtain ⟨_, q⟩ := cons_split heq
            exact absurd (by rw [show x' = 64 :: (40 :: u) from q.symm]; rfl) hx'
          · rw [if_neg z] at heq
            obtain ⟨_, q⟩ := cons_split heq
            obtain ⟨_, q⟩ := cons_split q
            obtain ⟨q, _⟩ := cons_split q
            exact absurd q (by decide)
        · rw [if_neg h5, if_neg h5] at heq
          obtain ⟨q1, _⟩ := cons_split heq
          exact absurd q1.symm (dB_flat h0' (by omega)).1
      · have hl2' := (look_some hl').1
        rw [unfL_node hl', List.append_assoc] at heq
        have hsp : (f = 5 → dB e.tag = dB e'.tag) ∧ nodeL f M n r ++ x = nodeL f M n' r' ++ x' := by
          unfold preL at heq
          by_cases h5 : f = 5
          · rw [if_pos h5, if_pos h5] at heq
            obtain ⟨q1, q⟩ := cons_split heq
            obtain ⟨_, q⟩ := cons_split q
            exact ⟨fun _ => q1, q⟩
          · rw [if_neg h5, if_neg h5] at heq
            exact ⟨fun hh => absurd hh h5, heq⟩
        obtain ⟨htag, heq⟩ := hsp
        unfold nodeL at heq
        simp only [List.cons_append, List.append_assoc, List.nil_append] at heq
        obtain ⟨_, heq⟩ := cons_split heq
        have hmid : r.top = r'.top ∧ r.bot = r'.bot ∧ unfL f M n r.lo ++ 32 :: (unfL f M n r.hi ++ 41 :: x) = unfL f M n' r'.lo ++ 32 :: (unfL f M n' r'.hi ++ 41 :: x') := by
          unfold midL at heq
          by_cases h34 : f = 3 ∨ f = 4
          · rw [if_pos h34, if_pos h34] at heq
            obtain ⟨q1, q⟩ := cons_split heq
            obtain ⟨_, q⟩ := cons_split q
            obtain ⟨q2, q⟩ := cons_split q
            obtain ⟨_, q⟩ := cons_split q
            exact ⟨dB_inj t0 t1 t0' t1' q1, dB_inj (by omega) bb (by omega) bb' q2, q⟩
          · rw [if_neg h34, if_neg h34] at heq
            obtain ⟨q1, q⟩ := cons_split heq
            obtain ⟨_, q⟩ := cons_split q
            have ht := dB_inj t0 t1 t0' t1' q1
            have c1 : r.top = r.bot := by rcases hch with c | c; exact c; exact absurd c h34
            have c2 : r'.top = r'.bot := by rcases hch' with c | c; exact c; exact absurd c h34
            exact ⟨ht, by omega, q⟩
        obtain ⟨m1, m2, heq⟩ := hmid
        obtain ⟨e1, heq⟩ := ih n' r.lo r'.lo _ _ _ _ hlo hlo' (by simp) (by simp) heq
        obtain ⟨_, heq⟩ := cons_split heq
        obtain ⟨e2, heq⟩ := ih n' r.hi r'.hi _ _ _ _ hhi hhi' (by simp) (by simp) heq
        obtain ⟨_, hxx⟩ := cons_split heq
        have er := rec_eq hf hf' m1 m2 e1 e2
        subst er
        exact ⟨edge_eq hM h h' (hM.wf.once _ _ _ hl hl') (fun hh _ => htag hh), hxx⟩

/-- Two nodes with one text are one. -/
theorem textI_inj {f : Int} {M : St} (hM : Fine f M) {i j : Int} {r s : Rec} (hi : look M.cs i = some r) (hj : look M.cs j = some s) (hf : r.form = f) (hf2 : s.form = f) (p1 : 0 ≤ r.top) (p2 : 0 ≤ s.top) (h : textI f M i = textI f M j) : i = j := by
  have h9 := hM.n9
  have mk : ∀ {id : Int} {q : Rec}, look M.cs id = some q → q.form = f → 0 ≤ q.top → 0 ≤ q.top ∧ q.top < 10 ∧ q.top ≤ q.bot ∧ q.bot < 10 ∧ (q.top = q.bot ∨ f = 3 ∨ f = 4) ∧ At f M q.lo (q.bot + 1) 11 ∧ At f M q.hi (q.bot + 1) 11 := fun {id q} hl hq h0 => by
    have g := hM.wf.goodRec hl
    have hok := hM.fit _ _ hl
    have h1 := g.tb
    have h2 := g.bn
    subst hq
    refine ⟨h0, by omega, h1, by omega, ?_, ⟨g.lo, hok.1, by omega⟩, ⟨g.hi, hok.2, by omega⟩⟩
    rcases g.chain with hc | hc
    · exact .inl hc
    · unfold chainedB at hc
      simp only [Bool.or_eq_true, beq_iff_eq] at hc
      exact .inr hc
  obtain ⟨t0, t1, tb, bb, hch, hlo, hhi⟩ := mk hi hf p1
  obtain ⟨t0', t1', tb', bb', hch', hlo', hhi'⟩ := mk hj hf2 p2
  unfold textI at h
  rw [hi, hj] at h
  dsimp only at h
  unfold nodeL at h
  obtain ⟨_, heq⟩ := cons_split h
  have hmid : r.top = s.top ∧ r.bot = s.bot ∧ unfL f M 11 r.lo ++ 32 :: (unfL f M 11 r.hi ++ [41]) = unfL f M 11 s.lo ++ 32 :: (unfL f M 11 s.hi ++ [41]) := by
    unfold midL at heq
    by_cases h34 : f = 3 ∨ f = 4
    · rw [if_pos h34, if_pos h34] at heq
      obtain ⟨q1, q⟩ := cons_split heq
      obtain ⟨_, q⟩ := cons_split q
      obtain ⟨q2, q⟩ := cons_split q
      obtain ⟨_, q⟩ := cons_split q
      exact ⟨dB_inj t0 t1 t0' t1' q1, dB_inj (by omega) bb (by omega) bb' q2, q⟩
    · rw [if_neg h34, if_neg h34] at heq
      obtain ⟨q1, q⟩ := cons_split heq
      obtain ⟨_, q⟩ := cons_split q
      have ht := dB_inj t0 t1 t0' t1' q1
      have c1 : r.top = r.bot := by rcases hch with c | c; exact c; exact absurd c h34
      have c2 : s.top = s.bot := by rcases hch' with c | c; exact c; exact absurd c h34
      exact ⟨ht, by omega, q⟩
  obtain ⟨m1, m2, heq⟩ := hmid
  obtain ⟨e1, heq⟩ := text_inj hM 11 11 r.lo s.lo _ _ _ _ hlo hlo' (by simp) (by simp) heq
  obtain ⟨_, heq⟩ := cons_split heq
  obtain ⟨e2, _⟩ := text_inj hM 11 11 r.hi s.hi _ _ _ _ hhi hhi' (by decide) (by decide) heq
  have er := rec_eq hf hf2 m1 m2 e1 e2
  subst er
  exact hM.wf.once _ _ _ hi hj

/-- All of a diagram's ids are what it reaches. -/
theorem idsO_mem {f : Int} {M : St} (hM : Fine f M) : ∀ (n : Nat) (e : Edge) (l : Int), At f M e l n → (∀ x, x ∈ idsO M n e ↔ Reaches M.cs [e.to] x) ∧ ∀ x ∈ idsO M n e, ∃ r, look M.cs x = some r ∧ r.form = f ∧ 0 ≤ r.top := by
  intro n
  induction n with
  | zero => intro e l h; obtain ⟨m, hm⟩ := h.pos hM; omega
  | succ n ih =>
    intro e l h
    rcases h.cases hM with ⟨h0, h2⟩ | ⟨r, hl, hf, _, _, _, t0, _, _, _, hlo, hhi⟩
    · have he : idsO M (n + 1) e = [] := by
        show (if e.to < 2 then [] else _) = _
        rw [if_pos h2]
      rw [he]
      refine ⟨fun x => ⟨fun hx => by simp at hx, fun hx => ?_⟩, fun x hx => by simp at hx⟩
      exact (hx (fun _ => False) (fun y hy hly => by
        rw [List.mem_singleton] at hy
        subst hy
        cases hk : look M.cs e.to with
        | none => exact hly hk
        | some q => have := (look_some hk).1; omega) (fun _ _ hh _ => hh.elim)).elim
    · have hg : grec (look M.cs e.to) = r := by rw [hl]; rfl
      have he : idsO M (n + 1) e = e.to :: (idsO M n r.lo ++ idsO M n r.hi) := by
        show (if e.to < 2 then [] else _) = _
        rw [if_neg (show ¬ e.to < 2 by have := (look_some hl).1; omega), hg]
      obtain ⟨i1, i2⟩ := ih _ _ hlo
      obtain ⟨j1, j2⟩ := ih _ _ hhi
      have hroot : Reaches M.cs [e.to] e.to := Reaches.root (by simp) (by rw [hl]; simp)
      have hcl := Reaches.closed M.cs [e.to] e.to r hroot hl
      rw [he]
      refine ⟨fun x => ⟨fun hx => ?_, fun hx => ?_⟩, fun x hx => ?_⟩
      · rcases List.mem_cons.1 hx with rfl | hx
        · exact hroot
        · rcases List.mem_append.1 hx with hx | hx
          · exact ((i1 x).1 hx).below (fun y hy hly => by rw [List.mem_singleton] at hy; subst hy; exact hcl.1 hly)
          · exact ((j1 x).1 hx).below (fun y hy hly => by rw [List.mem_singleton] at hy; subst hy; exact hcl.2 hly)
      · refine hx (fun y => y ∈ e.to :: (idsO M n r.lo ++ idsO M n r.hi)) (fun y hy _ => by rw [List.mem_singleton] at hy; subst hy; exact List.mem_cons_self) ?_
        intro id q hid hq
        rcases List.mem_cons.1 hid with rfl | hid
        · rw [hl] at hq
          cases hq
          exact ⟨fun hh => List.mem_cons_of_mem _ (List.mem_append_left _ ((i1 _).2 (Reaches.root (by simp) hh))), fun hh => List.mem_cons_of_mem _ (List.mem_append_right _ ((j1 _).2 (Reaches.root (by simp) hh)))⟩
        · rcases List.mem_append.1 hid with hid | hid
          · have hc := Reaches.closed M.cs [r.lo.to] id q ((i1 id).1 hid) hq
            exact ⟨fun hh => List.mem_cons_of_mem _ (List.mem_append_left _ ((i1 _).2 (hc.1 hh))), fun hh => List.mem_cons_of_mem _ (List.mem_append_left _ ((i1 _).2 (hc.2 hh)))⟩
          · have hc := Reaches.closed M.cs [r.hi.to] id q ((j1 id).1 hid) hq
            exact ⟨fun hh => List.mem_cons_of_mem _ (List.mem_append_right _ ((j1 _).2 (hc.1 hh))), fun hh => List.mem_cons_of_mem _ (List.mem_append_right _ ((j1 _).2 (hc.2 hh)))⟩
      · rcases List.mem_cons.1 hx with rfl | hx
        · exact ⟨r, hl, hf, t0⟩
        · rcases List.mem_append.1 hx with hx | hx
          · exact i2 x hx
          · exact j2 x hx

/-- The list with each thing once. -/
theorem fold_once (xs : List (List UInt8)) : ∀ out : List (List UInt8), out.Nodup → (xs.foldl addOne out).Nodup ∧ ∀ y, y ∈ xs.foldl addOne out ↔ y ∈ out ∨ y ∈ xs := by
  induction xs with
  | nil => intro out h; exact ⟨h, fun y => by simp⟩
  | cons x xs ih =>
    intro out h
    have hn : (addOne out x).Nodup ∧ ∀ y, y ∈ addOne out x ↔ y ∈ out ∨ y = x := by
      unfold addOne
      split
      · rename_i hm
        exact ⟨h, fun y => ⟨.inl, fun hh => by rcases hh with hh | rfl; exact hh; exact hm⟩⟩
      · rename_i hm
        refine ⟨List.nodup_append.2 ⟨h, by simp, fun a ha b hb e => ?_⟩, fun y => by simp⟩
        rw [List.mem_singleton] at hb
        subst hb
        subst e
        exact hm ha
    obtain ⟨i1, i2⟩ := ih _ hn.1
    refine ⟨i1, fun y => ?_⟩
    rw [List.foldl_cons, i2, hn.2, List.mem_cons]
    exact ⟨fun hh => by rcases hh with (hh | hh) | hh; exact .inl hh; exact .inr (.inl hh); exact .inr (.inr hh), fun hh => by rcases hh with hh | hh | hh; exact .inl (.inl hh); exact .inl (.inr hh); exact .inr hh⟩

theorem nodup_len2 : ∀ {a b : List (List UInt8)}, a.Nodup → (∀ x, x ∈ a → x ∈ b) → a.length ≤ b.length := by
  intro a
  induction a with
  | nil => intro b _ _; exact Nat.zero_le _
  | cons x a ih =>
    intro b hn hs
    have hx : x ∈ b := hs x (List.mem_cons_self)
    have hn2 := List.nodup_cons.1 hn
    have h1 := ih (b := b.erase x) hn2.2 (fun y hy => by
      have hne : y ≠ x := fun e => hn2.1 (e ▸ hy)
      exact (List.mem_erase_of_ne hne).2 (hs y (List.mem_cons_of_mem _ hy)))
    have h2 := List.length_erase_of_mem hx
    have h3 : 0 < b.length := List.length_pos_of_mem hx
    rw [List.length_cons]
    omega

theorem nodup_map {g : Int → List UInt8} : ∀ {a : List Int}, a.Nodup → (∀ x y, x ∈ a → y ∈ a → g x = g y → x = y) → (a.map g).Nodup := by
  intro a
  induction a with
  | nil => intro _ _; exact List.nodup_nil
  | cons x a ih =>
    intro hn hinj
    have hn2 := List.nodup_cons.1 hn
    refine List.nodup_cons.2 ⟨fun hm => ?_, ih hn2.2 (fun y z hy hz => hinj y z (List.mem_cons_of_mem _ hy) (List.mem_cons_of_mem _ hz))⟩
    obtain ⟨y, hy, he⟩ := List.mem_map.1 hm
    have := hinj y x (List.mem_cons_of_mem _ hy) List.mem_cons_self he
    subst this
    exact hn2.1 hy

/-- A text has as many nodes as its diagram. -/
theorem parts_count {f : Int} {M : St} (hM : Fine f M) (n : Nat) (e : Edge) (l : Int) (h : At f M e l n) : (partsTo (unfS f M n e) (unfS f M n e).size).length = (reachL M.cs [e.to]).length := by
  rw [parts_len]
  have hp := ps_text hM n e l [] [] h
  rw [List.append_nil] at hp
  rw [show (unfS f M n e).data.toList = unfL f M n e from rfl, hp]
  show (((idsO M n e).map (textI f M)).foldl addOne []).length = _
  obtain ⟨f1, f2⟩ := fold_once ((idsO M n e).map (textI f M)) [] List.nodup_nil
  obtain ⟨i1, i2⟩ := idsO_mem hM n e l h
  have hinj : ∀ x y, x ∈ reachL M.cs [e.to] → y ∈ reachL M.cs [e.to] → textI f M x = textI f M y → x = y := fun x y hx hy hxy => by
    obtain ⟨r, hr, hrf, hrt⟩ := i2 x ((i1 x).2 (mem_reachL.1 hx))
    obtain ⟨s, hs, hsf, hst⟩ := i2 y ((i1 y).2 (mem_reachL.1 hy))
    exact textI_inj hM hr hs hrf hsf hrt hst hxy
  have g1 := nodup_map (g := textI f M) (rising_nodup (reachL_rising M.cs [e.to])) hinj
  have hm : ∀ y, y ∈ ((idsO M n e).map (textI f M)).foldl addOne [] ↔ y ∈ (reachL M.cs [e.to]).map (textI f M) := fun y => by
    rw [f2]
    simp only [List.not_mem_nil, false_or, List.mem_map]
    exact ⟨fun ⟨x, hx, he⟩ => ⟨x, mem_reachL.2 ((i1 x).1 hx), he⟩, fun ⟨x, hx, he⟩ => ⟨x, (i1 x).2 (mem_reachL.1 hx), he⟩⟩
  have e1 := nodup_len2 f1 (fun y hy => (hm y).1 hy)
  have e2 := nodup_len2 g1 (fun y hy => (hm y).2 hy)
  rw [List.length_map] at e1 e2
  omega

end Go.Proofs.Ytacanmmkhbdmlaa
