/-
  The nodes of a diagram's text, plainly: each node has one text, and each text one node; how many there are.
-/
import Derived.Test.YtacanmmkhbdmlaaPPartsW
import Derived.Test.YtacanmmkhbdmlaaPSweepA
import Derived.Test.YtacanmmkhbdmlaaPUnfBase
namespace Go.Proofs.Ytacanmmkhbdmlaa
set_option linter.unusedSimpArgs false
set_option linter.unusedVariables false
set_option maxHeartbeats 600000

/-- A list with one thing more, unless it is there. -/
def addOne (out : List (List UInt8)) (x : List UInt8) : List (List UInt8) := if x ∈ out then out else out ++ [x]

/-- The nodes of the rest of a text. -/
def ps : List UInt8 → List (List UInt8) → List (List UInt8)
  | [], out => out
  | b :: u, out => ps u (if b = 40 then addOne out ((b :: u).take (1 + scanL u 1)) else out)

theorem extract_list (t : ByteArray) (i j : Nat) : (t.extract i j).data.toList = (t.data.toList.drop i).take (j - i) := by
  rw [ByteArray.data_extract, Array.toList_extract]

theorem partsTo_ps (t : ByteArray) : ∀ (u : List UInt8) (i : Nat), t.data.toList.drop i = u → i + u.length = t.size → ps u ((partsTo t i).map (fun s => s.data.toList)) = (partsTo t t.size).map (fun s => s.data.toList) := by
  intro u
  induction u with
  | nil =>
    intro i _ hl
    simp at hl
    rw [hl]
    rfl
  | cons b u ih =>
    intro i hd hl
    have hdu : t.data.toList.drop (i + 1) = u := by
      have := congrArg List.tail hd
      rw [List.tail_drop] at this
      exact this
    have hb : t.data.toList[i]? = some b := by
      have := congrArg (fun l => l[0]?) hd
      simp only [List.getElem?_drop, Nat.add_zero, List.getElem?_cons_zero] at this
      exact this
    rw [← ih (i + 1) hdu (by simp at hl; omega)]
    show ps u _ = ps u _
    congr 1
    show _ = (if t.data.toList[i]? = some 40 then _ else _ : List ByteArray).map _
    rw [hb]
    by_cases h40 : b = 40
    · subst h40
      rw [if_pos rfl, if_pos rfl]
      have hcut : (t.extract i (endAt t.data.toList i)).data.toList = (40 :: u).take (1 + scanL u 1) := by
        rw [extract_list, hd]
        congr 1
        unfold endAt
        rw [hdu]
        omega
      have hany : (partsTo t i).any (fun s => s.toList == (t.extract i (endAt t.data.toList i)).toList) = decide ((40 :: u).take (1 + scanL u 1) ∈ (partsTo t i).map (fun s => s.data.toList)) := by
        rw [Bool.eq_iff_iff]
        simp only [List.any_eq_true, decide_eq_true_eq, List.mem_map, beq_iff_eq]
        constructor
        · rintro ⟨s, hs, he⟩
          rw [ByteArray.toList_eq, ByteArray.toList_eq, hcut] at he
          exact ⟨s, hs, he⟩
        · rintro ⟨s, hs, he⟩
          exact ⟨s, hs, by rw [ByteArray.toList_eq, ByteArray.toList_eq, hcut, he]⟩
      unfold addOne
      rw [hany]
      by_cases hm : (40 :: u).take (1 + scanL u 1) ∈ (partsTo t i).map (fun s => s.data.toList)
      · rw [if_pos hm, decide_eq_true hm, if_pos rfl]
      · rw [if_neg hm, decide_eq_false hm, if_neg (by decide), List.map_append, List.map_cons, hcut]
        rfl
    · rw [if_neg h40, if_neg (fun e => h40 (by cases e; rfl))]

theorem parts_len (t : ByteArray) : (partsTo t t.size).length = (ps t.data.toList []).length := by
  have := partsTo_ps t t.data.toList 0 rfl (by simp)
  rw [show (partsTo t 0).map (fun s => s.data.toList) = [] from rfl] at this
  rw [this, List.length_map]

/-- No brackets. -/
def Flat (u : List UInt8) : Prop := ∀ b ∈ u, b ≠ 40 ∧ b ≠ 41

theorem scan_flat {u : List UInt8} (h : Flat u) (v : List UInt8) (d : Nat) : scanL (u ++ v) (d + 1) = u.length + scanL v (d + 1) := by
  induction u with
  | nil => simp
  | cons b u ih =>
    have hb := h b List.mem_cons_self
    show 1 + scanL (u ++ v) _ = _
    rw [if_neg hb.1, if_neg hb.2, ih (fun x hx => h x (List.mem_cons_of_mem _ hx)), List.length_cons]
    omega

theorem ps_flat {u : List UInt8} (h : Flat u) (v : List UInt8) (out : List (List UInt8)) : ps (u ++ v) out = ps v out := by
  induction u generalizing out with
  | nil => rfl
  | cons b u ih =>
    have hb := h b List.mem_cons_self
    show ps (u ++ v) _ = _
    rw [if_neg hb.1, ih (fun x hx => h x (List.mem_cons_of_mem _ hx))]

/-- A digit's byte. -/
def dB (k : Int) : UInt8 := UInt8.ofNat (48 + k).toNat

theorem dB_flat {k : Int} (h0 : 0 ≤ k) (h1 : k < 10) : dB k ≠ 40 ∧ dB k ≠ 41 ∧ dB k ≠ 64 := by
  have : k = 0 ∨ k = 1 ∨ k = 2 ∨ k = 3 ∨ k = 4 ∨ k = 5 ∨ k = 6 ∨ k = 7 ∨ k = 8 ∨ k = 9 := by omega
  rcases this with rfl | rfl | rfl | rfl | rfl | rfl | rfl | rfl | rfl | rfl <;> decide

theorem dB_inj {k j : Int} (h0 : 0 ≤ k) (h1 : k < 10) (h2 : 0 ≤ j) (h3 : j < 10) (h : dB k = dB j) : k = j := by
  have := congrArg UInt8.toNat h
  unfold dB at this
  rw [UInt8.toNat_ofNat', UInt8.toNat_ofNat'] at this
  omega

/-- A diagram's text as bytes. -/
def unfL (f : Int) (M : St) (n : Nat) (e : Edge) : List UInt8 := (unfS f M n e).data.toList

/-- Ahead of a node's bracket; behind it, up to its halves. -/
def preL (f : Int) (e : Edge) : List UInt8 := if f = 5 then [dB e.tag, 64] else []
def midL (f : Int) (r : Rec) : List UInt8 := if f = 3 ∨ f = 4 then [dB r.top, 58, dB r.bot, 32] else [dB r.top, 32]
def leafL (f : Int) (e : Edge) : List UInt8 := if f = 5 then (if e.to = 0 then [48] else [dB e.tag, 64, 49]) else [dB e.to]

/-- A node's own text. -/
def nodeL (f : Int) (M : St) (n : Nat) (r : Rec) : List UInt8 := 40 :: (midL f r ++ (unfL f M n r.lo ++ 32 :: (unfL f M n r.hi ++ [41])))

theorem digS_list (k : Int) : (digS k).data.toList = [dB k] := rfl

theorem unfL_leaf {f : Int} {M : St} {n : Nat} {e : Edge} (h0 : 0 ≤ e.to) (h : e.to < 2) : unfL f M (n + 1) e = leafL f e := by
  unfold unfL unfS leafL
  by_cases h5 : f = 5
  · rw [if_pos h5, if_pos h5]
    by_cases hz : e.to = 0
    · rw [if_pos hz, if_pos hz]
    · rw [if_neg hz, if_neg hz, if_pos (by omega)]
      simp [ByteArray.data_append, digS_list]
  · rw [if_neg h5, if_neg h5, if_pos h]
    rfl

theorem unfL_node {f : Int} {M : St} {n : Nat} {e : Edge} {r : Rec} (h : look M.cs e.to = some r) : unfL f M (n + 1) e = preL f e ++ nodeL f M n r := by
  have h2 := (look_some h).1
  have hg : grec (look M.cs e.to) = r := by rw [h]; rfl
  unfold unfL unfS preL nodeL midL
  rw [hg]
  by_cases h5 : f = 5
  · rw [if_pos h5, if_pos h5, if_neg (by omega), if_neg (by omega), if_neg (by omega)]
    simp [ByteArray.data_append, digS_list, unfL]
  · rw [if_neg h5, if_neg h5, if_neg (by omega)]
    by_cases h34 : f = 3 ∨ f = 4
    · rw [if_pos h34, if_pos h34]
      simp [ByteArray.data_append, digS_list, unfL]
    · rw [if_neg h34, if_neg h34]
      simp [ByteArray.data_append, digS_list, unfL]

/-- A state whose texts are right: its records fit, its levels are digits. -/
structure Fine (f : Int) (M : St) : Prop where
  wf : M.wf
  fit : ∀ id r, look M.cs id = some r → 0 ≤ r.lo.to ∧ 0 ≤ r.hi.to
  n9 : M.n ≤ 9

/-- An edge of the form that leads at a level. -/
structure At (f : Int) (M : St) (e : Edge) (l : Int) (n : Nat) : Prop where
  lead : M.leads f e l = true
  ok : 0 ≤ e.to
  deep : M.n < l + n

theorem At.tag {f : Int} {M : St} {e : Edge} {l : Int} {n : Nat} (hM : Fine f M) (h : At f M e l n) : 0 ≤ e.tag ∧ e.tag < 10 ∧ (f ≠ 5 ∨ e.to = 0 → e.tag = 0) ∧ 0 ≤ l := by
  obtain ⟨h1, _⟩ := leads_cases h.lead
  have h9 := hM.n9
  unfold plainB at h1
  split at h1
  · cases h1
  · rename_i hc
    simp only [Bool.or_eq_true, decide_eq_true_eq, not_or] at hc
    split at h1
    · rename_i hc2
      have ht : e.tag = 0 := by simpa using h1
      exact ⟨by omega, by omega, fun _ => ht, by omega⟩
    · rename_i hc2
      simp only [Bool.or_eq_true, bne_iff_ne, ne_eq, beq_iff_eq, not_or, Decidable.not_not] at hc2
      simp only [Bool.and_eq_true, decide_eq_true_eq] at h1
      exact ⟨by omega, by omega, fun hh => by rcases hh with hh | hh; exact absurd hc2.1 hh; exact absurd hh hc2.2, by omega⟩

/-- A leaf, or a node whose halves lead. -/
theorem At.cases {f : Int} {M : St} {e : Edge} {l : Int} {n : Nat} (hM : Fine f M) (h : At f M e l (n + 1)) :
    (0 ≤ e.to ∧ e.to < 2) ∨ (∃ r, look M.cs e.to = some r ∧ r.form = f ∧ l ≤ r.top ∧ r.top ≤ r.bot ∧ r.bot < M.n ∧ 0 ≤ r.top ∧ r.top < 10 ∧ r.bot < 10 ∧ (r.top = r.bot ∨ f = 3 ∨ f = 4) ∧ At f M r.lo (r.bot + 1) n ∧ At f M r.hi (r.bot + 1) n) := by
  obtain ⟨h1, h2⟩ := leads_cases h.lead
  have h9 := hM.n9
  rcases h2 with h2 | ⟨r, hl, hf, ht, _⟩
  · exact .inl ⟨h.ok, h2⟩
  · right
    have g := hM.wf.goodRec hl
    have hok := hM.fit _ _ hl
    have := g.tb
    have := g.bn
    have hd := h.deep
    have hl0 := (h.tag hM).2.2.2
    subst hf
    refine ⟨r, hl, rfl, ht, g.tb, g.bn, by omega, by omega, by omega, ?_, ⟨g.lo, hok.1, by push_cast at hd; omega⟩, ⟨g.hi, hok.2, by push_cast at hd; omega⟩⟩
    rcases g.chain with hc | hc
    · exact .inl hc
    · unfold chainedB at hc
      simp only [Bool.or_eq_true, beq_iff_eq] at hc
      exact .inr hc

theorem At.pos {f : Int} {M : St} {e : Edge} {l : Int} {n : Nat} (hM : Fine f M) (h : At f M e l n) : ∃ m, n = m + 1 := by
  have h1 := (leads_cases h.lead).1
  have hd := h.deep
  unfold plainB at h1
  split at h1
  · cases h1
  · rename_i hc
    simp only [Bool.or_eq_true, decide_eq_true_eq, not_or] at hc
    exact ⟨n - 1, by omega⟩

theorem pre_flat {f : Int} {M : St} {e : Edge} {l : Int} {n : Nat} (hM : Fine f M) (h : At f M e l n) : Flat (preL f e) := by
  obtain ⟨t0, t1, _⟩ := h.tag hM
  obtain ⟨a, b, _⟩ := dB_flat t0 t1
  unfold preL Flat
  split
  · intro x hx
    simp at hx
    rcases hx with rfl | rfl
    · exact ⟨a, b⟩
    · decide
  · intro x hx; simp at hx

theorem leaf_flat {f : Int} {M : St} {e : Edge} {l : Int} {n : Nat} (hM : Fine f M) (h : At f M e l n) (h0 : 0 ≤ e.to) (h2 : e.to < 2) : Flat (leafL f e) := by
  obtain ⟨t0, t1, _⟩ := h.tag hM
  obtain ⟨a, b, _⟩ := dB_flat t0 t1
  obtain ⟨c, d, _⟩ := dB_flat (k := e.to) h0 (by omega)
  unfold leafL Flat
  split
  · split
    · intro x hx; simp at hx; subst hx; decide
    · intro x hx
      simp at hx
      rcases hx with rfl | rfl | rfl
      · exact ⟨a, b⟩
      · decide
      · decide
  · intro x hx; simp at hx; subst hx; exact ⟨c, d⟩

theorem mid_flat (f : Int) {r : Rec} (h0 : 0 ≤ r.top) (h1 : r.top ≤ r.bot) (h2 : r.bot < 10) : Flat (midL f r) := by
  obtain ⟨a, b, _⟩ := dB_flat (k := r.top) h0 (by omega)
  obtain ⟨c, d, _⟩ := dB_flat (k := r.bot) (by omega) h2
  unfold midL Flat
  split
  · intro x hx
    simp at hx
    rcases hx with rfl | rfl | rfl | rfl
    · exact ⟨a, b⟩
    · decide
    · exact ⟨c, d⟩
    · decide
  · intro x hx
    simp at hx
    rcases hx with rfl | rfl
    · exact ⟨a, b⟩
    · decide

/-- A text leaves nothing open. -/
theorem scan_text {f : Int} {M : St} (hM : Fine f M) : ∀ (n : Nat) (e : Edge) (l : Int) (v : List UInt8) (d : Nat), At f M e l n → scanL (unfL f M n e ++ v) (d + 1) = (unfL f M n e).length + scanL v (d + 1) := by
  intro n
  induction n with
  | zero => intro e l v d h; obtain ⟨m, hm⟩ := h.pos hM; omega
  | succ n ih =>
    intro e l v d h
    rcases h.cases hM with ⟨h0, h2⟩ | ⟨r, hl, _, _, tb, _, t0, t1, b1, _, hlo, hhi⟩
    · rw [unfL_leaf h0 h2, scan_flat (leaf_flat hM h h0 h2)]
    · rw [unfL_node hl, List.append_assoc, scan_flat (pre_flat hM h)]
      unfold nodeL
      rw [List.cons_append, scanL, if_pos rfl, List.append_assoc, scan_flat (mid_flat f t0 tb b1), List.append_assoc, ih _ _ _ _ hlo, List.cons_append, scanL, if_neg (by decide), if_neg (by decide), List.append_assoc, ih _ _ _ _ hhi,
        List.cons_append, scanL, if_neg (by decide), if_pos rfl]
      simp only [List.nil_append, List.length_append, List.length_cons, List.length_nil]
      omega

/-- From a node's bracket to its end. -/
theorem scan_node {f : Int} {M : St} (hM : Fine f M) {n : Nat} {r : Rec} (t0 : 0 ≤ r.top) (tb : r.top ≤ r.bot) (b1 : r.bot < 10) (hlo : At f M r.lo (r.bot + 1) n) (hhi : At f M r.hi (r.bot + 1) n) (v : List UInt8) :
    ∃ u, nodeL f M n r ++ v = 40 :: u ∧ (40 :: u).take (1 + scanL u 1) = nodeL f M n r := by
  refine ⟨midL f r ++ (unfL f M n r.lo ++ 32 :: (unfL f M n r.hi ++ [41])) ++ v, rfl, ?_⟩
  have hs : scanL (midL f r ++ (unfL f M n r.lo ++ 32 :: (unfL f M n r.hi ++ [41])) ++ v) 1 = (midL f r ++ (unfL f M n r.lo ++ 32 :: (unfL f M n r.hi ++ [41]))).length := by
    rw [List.append_assoc, scan_flat (mid_flat f t0 tb b1), List.append_assoc, scan_text hM _ _ _ _ _ hlo, List.cons_append, scanL, if_neg (by decide), if_neg (by decide), List.append_assoc, scan_text hM _ _ _ _ _ hhi,
        List.cons_append, scanL, if_neg (by decide), if_pos rfl, scanL_zero]
    simp only [List.length_append, List.length_cons, List.length_nil]
    omega
  have hn : 1 + (midL f r ++ (unfL f M n r.lo ++ 32 :: (unfL f M n r.hi ++ [41]))).length = (nodeL f M n r).length := by unfold nodeL; rw [List.length_cons]; omega
  rw [hs, hn]
  show (nodeL f M n r ++ v).take _ = _
  rw [List.take_left]

/-- The ids of a diagram's nodes, from above, with all that is met again. -/
def idsO (M : St) : Nat → Edge → List Int
  | 0, _ => []
  | n + 1, e => if e.to < 2 then [] else e.to :: (idsO M n (grec (look M.cs e.to)).lo ++ idsO M n (grec (look M.cs e.to)).hi)

/-- A text does not mind a greater depth. -/
theorem unfL_deep {f : Int} {M : St} (hM : Fine f M) : ∀ (n m : Nat) (e : Edge) (l l' : Int), At f M e l n → At f M e l' m → unfL f M n e = unfL f M m e := by
  intro n
  induction n with
  | zero => intro m e l l' h _; obtain ⟨q, hq⟩ := h.pos hM; omega
  | succ n ih =>
    intro m e l l' h h'
    obtain ⟨m, rfl⟩ := h'.pos hM
    rcases h.cases hM with ⟨h0, h2⟩ | ⟨r, hl, _, _, _, _, _, _, _, _, hlo, hhi⟩
    · rw [unfL_leaf h0 h2, unfL_leaf h0 h2]
    · rcases h'.cases hM with ⟨h0, h2⟩ | ⟨r', hl', _, _, _, _, _, _, _, _, hlo', hhi'⟩
      · have := (look_some hl).1; omega
      · rw [hl] at hl'
        cases hl'
        rw [unfL_node hl, unfL_node hl]
        unfold nodeL
        rw [ih m _ _ _ hlo hlo', ih m _ _ _ hhi hhi']

/-- The text of a node, by its id. -/
def textI (f : Int) (M : St) (id : Int) : List UInt8 := match look M.cs id with | some r => nodeL f M 11 r | none => []

theorem node_deep {f : Int} {M : St} (hM : Fine f M) {n : Nat} {id : Int} {r : Rec} (hl : look M.cs id = some r) (hlo : At f M r.lo (r.bot + 1) n) (hhi : At f M r.hi (r.bot + 1) n) (hb : 0 ≤ r.bot) : nodeL f M n r = textI f M id := by
  have h9 := hM.n9
  unfold textI
  rw [hl]
  unfold nodeL
  dsimp only
  rw [unfL_deep hM n 11 _ _ _ hlo ⟨hlo.lead, hlo.ok, by omega⟩, unfL_deep hM n 11 _ _ _ hhi ⟨hhi.lead, hhi.ok, by omega⟩]

/-- The nodes of a text are those of its diagram. -/
theorem ps_text {f : Int} {M : St} (hM : Fine f M) : ∀ (n : Nat) (e : Edge) (l : Int) (v : List UInt8) (out : List (List UInt8)), At f M e l n → ps (unfL f M n e ++ v) out = ps v (((idsO M n e).map (textI f M)).foldl addOne out) := by
  intro n
  induction n with
  | zero => intro e l v out h; obtain ⟨m, hm⟩ := h.pos hM; omega
  | succ n ih =>
    intro e l v out h
    rcases h.cases hM with ⟨h0, h2⟩ | ⟨r, hl, _, _, tb, _, t0, t1, b1, _, hlo, hhi⟩
    · rw [unfL_leaf h0 h2, ps_flat (leaf_flat hM h h0 h2)]
      unfold idsO
      rw [if_pos h2]
      rfl
    · have hg : grec (look M.cs e.to) = r := by rw [hl]; rfl
      rw [unfL_node hl, List.append_assoc, ps_flat (pre_flat hM h)]
      obtain ⟨u, hu, ht⟩ := scan_node hM t0 tb b1 hlo hhi v
      have hu2 : u = midL f r ++ (unfL f M n r.lo ++ 32 :: (unfL f M n r.hi ++ [41])) ++ v := by
        have : nodeL f M n r ++ v = 40 :: (midL f r ++ (unfL f M n r.lo ++ 32 :: (unfL f M n r.hi ++ [41])) ++ v) := rfl
        rw [this] at hu
        exact (List.cons.inj hu).2.symm
      rw [hu]
      show ps u _ = _
      rw [if_pos rfl, ht, hu2, List.append_assoc, ps_flat (mid_flat f t0 tb b1), List.append_assoc, ih _ _ _ _ hlo]
      show ps (unfL f M n r.hi ++ [41] ++ v) _ = _
      rw [List.append_assoc, ih _ _ _ _ hhi]
      show ps v _ = ps v _
      rw [node_deep hM hl hlo hhi (by omega)]
      rw [show idsO M (n + 1) e = if e.to < 2 then [] else e.to :: (idsO M n (grec (look M.cs e.to)).lo ++ idsO M n (grec (look M.cs e.to)).hi) from rfl, if_neg (show ¬ e.to < 2 by have := (look_some hl).1; omega), hg]
      simp only [List.map_cons, List.map_append, List.foldl_cons, List.foldl_append]
      rfl

end Go.Proofs.Ytacanmmkhbdmlaa
