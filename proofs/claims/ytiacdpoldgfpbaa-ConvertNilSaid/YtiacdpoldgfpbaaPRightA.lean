/-
  Which edges are right, over the state.
-/
import Derived.Test.YtiacdpoldgfpbaaPMBase
import Derived.Test.YtiacdpoldgfpbaaPReachB
import Derived.Test.YtiacdpoldgfpbaaPStA
namespace Go.Proofs.Ytiacdpoldgfpbaa
set_option linter.unusedSimpArgs false
set_option linter.unusedVariables false
set_option maxHeartbeats 600000
open Go.RowKit

/-- What a record of a right diagram of a form is not. -/
def wrongB (M : St) (f : Int) (r : Rec) : Bool :=
  if f = 5 then decide (r.hi.to = 0) && decide (r.lo.tag = r.top + 1)
  else match look M.cs r.lo.to with
    | none => false
    | some x => decide (x.top = r.bot + 1) && (if f = 4 then decide (r.lo = r.hi) else decide (x.hi = r.hi))

noncomputable def rightL (M : St) (f : Int) (e : Edge) (l : Int) : Bool :=
  M.leads f e l && (reachL M.cs [e.to]).all (fun id => !wrongB M f (grec (look M.cs id)))

theorem rightL_no {M : St} {f : Int} {e : Edge} {l : Int} (h : M.leads f e l = false) : rightL M f e l = false := by unfold rightL; rw [h]; rfl

theorem rightL_bad {M : St} {f : Int} {e : Edge} {l : Int} {d : Nat} {id : Int} (hi : (reachL M.cs [e.to])[d]? = some id) (hw : wrongB M f (grec (look M.cs id)) = true) : rightL M f e l = false := by
  unfold rightL
  have : (reachL M.cs [e.to]).all (fun id => !wrongB M f (grec (look M.cs id))) = false := by
    rw [List.all_eq_false]
    exact ⟨id, List.mem_of_getElem? hi, by rw [hw]; simp⟩
  rw [this, Bool.and_false]

theorem rightL_good {M : St} {f : Int} {e : Edge} {l : Int} (h : M.leads f e l = true) (hw : ∀ (i : Nat) (id : Int), i < (reachL M.cs [e.to]).length → (reachL M.cs [e.to])[i]? = some id → wrongB M f (grec (look M.cs id)) = false) : rightL M f e l = true := by
  unfold rightL
  rw [h, Bool.true_and, List.all_eq_true]
  intro id hid
  obtain ⟨i, hi⟩ := List.getElem?_of_mem hid
  rw [hw i id (List.getElem?_eq_some_iff.1 hi).1 hi]
  rfl

/-- What is reached is a record that fits. -/
theorem reach_rec {M : St} (h : M.wf) {es : List Int} {d : Nat} {id : Int} (hi : (reachL M.cs es)[d]? = some id) : ∃ r, look M.cs id = some r ∧ GoodRec M r ∧ 2 ≤ id ∧ id ≤ (M.cs.length : Int) + 1 := by
  have h1 := (mem_reachL.1 (List.mem_of_getElem? hi)).some
  cases hl : look M.cs id with
  | none => exact absurd hl h1
  | some r =>
    have := look_some hl
    exact ⟨r, rfl, h.goodRec hl, this.1, by omega⟩

theorem isEdges_one {W : World} {b : Nat} {e : Edge} (he : e.ok) (c0 : W.cell? ⟨b, 0, none⟩ = some (.int .u8 e.tag)) (c1 : W.cell? ⟨b, 1, none⟩ = some (.int .u32 e.to)) : IsEdges W (some ⟨b, 0, none⟩) 1 [e] := by
  refine ⟨rfl, fun i x hx => ?_⟩
  cases i with
  | zero => simp at hx; subst hx; exact ⟨he, b, 0, rfl, c0, c1⟩
  | succ i => simp at hx

theorem reachL_few {M : St} (h : M.wf) (hf : M.cs.length ≤ 1048576) (es : List Int) : (reachL M.cs es).length ≤ 1048576 := by
  have h1 := ids_few M.cs.length (reachL M.cs es) ((reachL_rising M.cs es).imp (fun h => by omega)) (fun x hx => by
    have h1 := (mem_reachL.1 hx).some
    cases hl : look M.cs x with
    | none => exact absurd hl h1
    | some r => have := look_some hl; exact ⟨this.1, this.2.1⟩)
  omega

theorem StoreRep.few {F : Nat → Prop} {w : World} {sb : Nat} {M : St} (h : StoreRep F w sb M) : M.cs.length ≤ 1048576 := by
  obtain ⟨⟨ab, ib, ts, Fa, Fi, _, h2, _⟩, _⟩ := h
  exact h2.few

end Go.Proofs.Ytiacdpoldgfpbaa

/-
  Plainly: View of a right edge and Make of its halves tell it again.
-/
namespace Go.Proofs.Ytiacdpoldgfpbaa
set_option linter.unusedSimpArgs false
set_option linter.unusedVariables false
set_option maxHeartbeats 600000

theorem plainB_iff {f : Int} {e : Edge} {l n : Int} : plainB f e l n = true ↔ (1 ≤ f ∧ f ≤ 5 ∧ 0 ≤ n ∧ n ≤ 16 ∧ 0 ≤ l ∧ l ≤ n ∧ ((f ≠ 5 ∨ e.to = 0) → e.tag = 0) ∧ (f = 5 → e.to ≠ 0 → l ≤ e.tag ∧ e.tag ≤ n)) := by
  unfold plainB isFormB mayB
  constructor
  · intro h
    split at h
    · cases h
    · rename_i c
      simp only [Bool.or_eq_true, Bool.not_eq_true', Bool.and_eq_false_iff, decide_eq_false_iff_not, decide_eq_true_eq, not_or] at c
      split at h
      · rename_i d
        simp only [Bool.or_eq_true, bne_iff_ne, ne_eq, beq_iff_eq] at d
        have := eq_of_beq h
        refine ⟨by omega, by omega, by omega, by omega, by omega, by omega, fun _ => this, fun h5 h0 => ?_⟩
        rcases d with d | d
        · exact absurd h5 d
        · exact absurd d h0
      · rename_i d
        simp only [Bool.or_eq_true, bne_iff_ne, ne_eq, beq_iff_eq, not_or, Decidable.not_not] at d
        simp only [Bool.and_eq_true, decide_eq_true_eq] at h
        refine ⟨by omega, by omega, by omega, by omega, by omega, by omega, fun hh => ?_, fun _ _ => h⟩
        rcases hh with hh | hh
        · exact absurd d.1 hh
        · exact absurd hh d.2
  · rintro ⟨h1, h2, h3, h4, h5, h6, h7, h8⟩
    have c : ¬ (!(decide (1 ≤ f) && decide (f ≤ 5)) || !(decide (0 ≤ n) && decide (n ≤ 16)) || decide (l < 0) || decide (n < l)) = true := by
      simp only [Bool.or_eq_true, Bool.not_eq_true', Bool.and_eq_false_iff, decide_eq_false_iff_not, decide_eq_true_eq]
      omega
    rw [if_neg c]
    by_cases d : f ≠ 5 ∨ e.to = 0
    · have d' : (f != 5 || e.to == 0) = true := by simpa using d
      rw [if_pos d']
      simpa using h7 d
    · have d' : ¬ (f != 5 || e.to == 0) = true := by simpa using d
      rw [if_neg d']
      have := h8 (by omega) (by omega)
      simpa using this

theorem leads_iff {M : St} {f : Int} {e : Edge} {l : Int} : M.leads f e l = true ↔ (plainB f e l M.n = true ∧ (e.to < 2 ∨ ∃ r, look M.cs e.to = some r ∧ r.form = f ∧ l ≤ r.top ∧ e.tag ≤ r.top)) := by
  refine ⟨leads_cases, ?_⟩
  rintro ⟨h1, h2⟩
  unfold St.leads
  rw [h1, Bool.true_and]
  rcases h2 with h2 | ⟨r, hr, h3, h4, h5⟩
  · rw [decide_eq_true h2]; rfl
  · rw [hr]
    simp [h3, h4, h5]

theorem leads_down {M : St} {f : Int} {e : Edge} {l l' : Int} (h : M.leads f e l = true) (h0 : 0 ≤ l') (h1 : l' ≤ l) : M.leads f e l' = true := by
  obtain ⟨hp, hr⟩ := leads_iff.1 h
  obtain ⟨p1, p2, p3, p4, p5, p6, p7, p8⟩ := plainB_iff.1 hp
  refine leads_iff.2 ⟨plainB_iff.2 ⟨p1, p2, p3, p4, h0, by omega, p7, fun a b => by have := p8 a b; omega⟩, ?_⟩
  rcases hr with hr | ⟨r, q1, q2, q3, q4⟩
  · exact .inl hr
  · exact .inr ⟨r, q1, q2, by omega, q4⟩

/-- A record that is there is found. -/
theorem find_old {M : St} (h : M.wf) {r : Rec} {id : Int} (hl : look M.cs id = some r) : M.findErr r = 0 ∧ M.findId r = id ∧ M.findSt r = M := by
  have hi := (idOf_iff h.once r id).1 hl
  unfold St.findErr St.findId St.findSt
  rw [hi]
  exact ⟨rfl, rfl, rfl⟩

/-- A record that may be is found or made, if there is room. -/
theorem find_good {M : St} (h : M.wf) {r : Rec} (hb : M.bad r = false) (hroom : M.len < M.room) :
    M.findErr r = 0 ∧ look (M.findSt r).cs (M.findId r) = some r ∧ (∀ id r', look M.cs id = some r' → look (M.findSt r).cs id = some r') ∧ (M.findSt r).n = M.n ∧ (M.findSt r).wf ∧ 2 ≤ M.findId r := by
  cases hi : M.idOf r with
  | some id =>
    have hl := (idOf_iff h.once r id).2 hi
    obtain ⟨a, b, c⟩ := find_old h hl
    rw [b, c]
    exact ⟨a, hl, fun _ _ h => h, rfl, h, (look_some hl).1⟩
  | none =>
    have e1 : M.findErr r = 0 := by unfold St.findErr; rw [hi]; simp only []; rw [if_neg (by rw [hb]; simp), if_neg (by omega)]
    have e2 : M.findId r = putId M.gone M.cs.length := by unfold St.findId; rw [hi]; simp only []; rw [if_neg (by rw [hb]; simp), if_neg (by omega)]
    have e3 : M.findSt r = M.add r := by unfold St.findSt; rw [hi]; simp only []; rw [if_neg (by rw [hb]; simp), if_neg (by omega)]; rfl
    refine ⟨e1, ?_, ?_, by rw [findSt_n], h.find r, ?_⟩
    · rw [e2, e3]
      exact (h.look_add r _ _).2 (.inl ⟨rfl, rfl⟩)
    · intro id r' hl
      rw [e3]
      exact (h.look_add r _ _).2 (.inr hl)
    · rw [e2]
      exact (putId_range h.gone).1

theorem right_leads {M : St} {f : Int} {e : Edge} {l : Int} (h : rightL M f e l = true) : M.leads f e l = true := by
  unfold rightL at h
  rw [Bool.and_eq_true] at h
  exact h.1

theorem right_rec {M : St} {f : Int} {e : Edge} {l : Int} (h : rightL M f e l = true) {r : Rec} (hl : look M.cs e.to = some r) : wrongB M f r = false := by
  unfold rightL at h
  rw [Bool.and_eq_true, List.all_eq_true] at h
  have := h.2 e.to (mem_reachL.2 (Reaches.root (by simp) (by rw [hl]; simp)))
  rw [hl] at this
  simpa [grec] using this

/-- The lower rest of a chain may be a record. -/
theorem rest_good {M : St} {r : Rec} (g : GoodRec M r) (hn : M.n ≤ 16) (h0 : 0 ≤ r.top) (hc : r.form = 3 ∨ r.form = 4) (hne : r.bot ≠ r.top) : M.bad ⟨r.form, r.top + 1, r.bot, r.lo, r.hi⟩ = false := by
  have t1 := g.tb
  have t2 := g.bn
  have p1 := (leads_iff.1 g.lo).1
  have p2 := (leads_iff.1 g.hi).1
  unfold St.bad
  simp only [Bool.or_eq_false_iff, Bool.not_eq_false']
  refine ⟨⟨?_, g.lo⟩, g.hi⟩
  unfold rightB isFormB mayB chainedB
  have c1 : ¬ (!(decide (1 ≤ r.form) && decide (r.form ≤ 5)) || !(decide (0 ≤ M.n) && decide (M.n ≤ 16)) || decide (r.bot < r.top + 1) || decide (M.n ≤ r.bot) || (r.top + 1 != r.bot && !(r.form == 3 || r.form == 4))) = true := by
    simp only [Bool.or_eq_true, Bool.not_eq_true', Bool.and_eq_true, Bool.and_eq_false_iff, Bool.or_eq_false_iff, decide_eq_false_iff_not, decide_eq_true_eq, beq_eq_false_iff_ne]
    have := g.f1
    have := g.f5
    omega
  rw [if_neg c1, if_neg (by rw [p1, p2]; simp)]
  rcases hc with hc | hc
  · rw [if_neg (by simp [hc])]
    have := g.apart (by omega) (by omega)
    cases he : (r.lo.tag == r.hi.tag && r.lo.to == r.hi.to) with
    | false => rfl
    | true =>
      simp only [Bool.and_eq_true, beq_iff_eq] at he
      exact absurd (by cases hl : r.lo; cases hh : r.hi; rw [hl, hh] at he; simp at he; rw [he.1, he.2]) this
  · rw [if_pos (by simp [hc])]
    simpa using g.zero (.inr hc)

theorem law5 {M : St} (h : M.wf) {e : Edge} {l : Int} (he : e.ok) (h0 : 0 ≤ l) (h1 : l < M.n) (hR : rightL M 5 e l = true) :
    vErr M (viewAct M 5 e l) = 0 ∧ vSt M (viewAct M 5 e l) = M ∧ actErr M (tAct M l (vLo M (viewAct M 5 e l)) (vHi M 5 (viewAct M 5 e l))) = 0 ∧ actE M (tAct M l (vLo M (viewAct M 5 e l)) (vHi M 5 (viewAct M 5 e l))) = e := by
  have hL := right_leads hR
  obtain ⟨hp, hr⟩ := leads_iff.1 hL
  obtain ⟨p1, p2, p3, p4, p5, p6, p7, p8⟩ := plainB_iff.1 hp
  have hto := he.2.1
  have nv : ¬ (l < 0 ∨ M.n ≤ l) := by omega
  have nl : ¬ M.leads 5 e l = false := by rw [hL]; simp
  have hz : M.leads 5 ⟨0, 0⟩ (l + 1) = true := leads_iff.2 ⟨plainB_iff.2 ⟨by omega, by omega, p3, p4, by omega, by omega, fun _ => rfl, fun _ h => absurd rfl h⟩, .inl (by show (0 : Int) < 2; omega)⟩
  -- an edge that stays the same
  have same : M.leads 5 e (l + 1) = true → viewAct M 5 e l = .inl (e, e, 0) → vErr M (viewAct M 5 e l) = 0 ∧ vSt M (viewAct M 5 e l) = M ∧ actErr M (tAct M l (vLo M (viewAct M 5 e l)) (vHi M 5 (viewAct M 5 e l))) = 0 ∧ actE M (tAct M l (vLo M (viewAct M 5 e l)) (vHi M 5 (viewAct M 5 e l))) = e := by
    intro h2 hv
    rw [hv]
    have : tAct M l e e = .inl (e, 0) := by unfold tAct; rw [if_neg nv, if_neg (by rw [h2]; simp), if_pos rfl]
    show _ ∧ _ ∧ actErr M (tAct M l e e) = 0 ∧ actE M (tAct M l e e) = e
    rw [this]
    exact ⟨rfl, rfl, rfl, rfl⟩
  -- one whose tag falls by one
  have step : e.to ≠ 0 → e.tag = l → M.leads 5 ⟨l + 1, e.to⟩ (l + 1) = true → viewAct M 5 e l = .inl (⟨l + 1, e.to⟩, ⟨0, 0⟩, 0) → vErr M (viewAct M 5 e l) = 0 ∧ vSt M (viewAct M 5 e l) = M ∧ actErr M (tAct M l (vLo M (viewAct M 5 e l)) (vHi M 5 (viewAct M 5 e l))) = 0 ∧ actE M (tAct M l (vLo M (viewAct M 5 e l)) (vHi M 5 (viewAct M 5 e l))) = e := by
    intro hn ht h2 hv
    rw [hv]
    have : tAct M l ⟨l + 1, e.to⟩ ⟨0, 0⟩ = .inl (⟨l, e.to⟩, 0) := by
      unfold tAct
      rw [if_neg nv, if_neg (by rw [h2, hz]; simp), if_neg (by intro hh; injection hh; omega), if_pos ⟨rfl, rfl⟩]
    show _ ∧ _ ∧ actErr M (tAct M l ⟨l + 1, e.to⟩ ⟨0, 0⟩) = 0 ∧ actE M (tAct M l ⟨l + 1, e.to⟩ ⟨0, 0⟩) = e
    rw [this]
    refine ⟨rfl, rfl, rfl, ?_⟩
    show (⟨l, e.to⟩ : Edge) = e
    rw [← ht]
  by_cases z0 : e.to = 0
  · exact same (leads_iff.2 ⟨plainB_iff.2 ⟨p1, p2, p3, p4, by omega, by omega, p7, fun _ b => absurd z0 b⟩, .inl (by omega)⟩) (by unfold viewAct; rw [if_neg nv, if_neg nl, if_pos ⟨rfl, .inl z0⟩])
  · obtain ⟨k1, k2⟩ := p8 rfl z0
    by_cases z1 : l < e.tag
    · refine same (leads_iff.2 ⟨plainB_iff.2 ⟨p1, p2, p3, p4, by omega, by omega, p7, fun _ _ => ⟨by omega, k2⟩⟩, ?_⟩) (by unfold viewAct; rw [if_neg nv, if_neg nl, if_pos ⟨rfl, .inr z1⟩])
      rcases hr with hr | ⟨r, q1, q2, q3, q4⟩
      · exact .inl hr
      · exact .inr ⟨r, q1, q2, by omega, q4⟩
    · have nt : ¬ ((5 : Int) = 5 ∧ (e.to = 0 ∨ l < e.tag)) := by omega
      have ht : e.tag = l := by omega
      have evo : vOut 5 l e = (⟨l + 1, e.to⟩, ⟨0, 0⟩, 0) := by simp [vOut]
      cases hk : look M.cs e.to with
      | none =>
        have hlt : e.to < 2 := by
          rcases hr with hr | ⟨r, q1, _⟩
          · exact hr
          · rw [hk] at q1; cases q1
        refine step z0 ht (leads_iff.2 ⟨plainB_iff.2 ⟨p1, p2, p3, p4, by omega, by omega, fun hh => by (rcases hh with hh | hh; exact absurd rfl hh; exact absurd hh z0), fun _ _ => ⟨by show l + 1 ≤ l + 1; omega, by show l + 1 ≤ M.n; omega⟩⟩, .inl hlt⟩) (by unfold viewAct; rw [if_neg nv, if_neg nl, if_neg nt, hk]; show Sum.inl (vOut 5 l e) = _; rw [evo])
      | some r =>
        obtain ⟨f1, f2, f3⟩ := leads_some hL hk
        by_cases c2 : l < r.top
        · refine step z0 ht (leads_iff.2 ⟨plainB_iff.2 ⟨p1, p2, p3, p4, by omega, by omega, fun hh => by (rcases hh with hh | hh; exact absurd rfl hh; exact absurd hh z0), fun _ _ => ⟨by show l + 1 ≤ l + 1; omega, by show l + 1 ≤ M.n; omega⟩⟩, .inr ⟨r, hk, f1, by omega, by show l + 1 ≤ r.top; omega⟩⟩) (by unfold viewAct; rw [if_neg nv, if_neg nl, if_neg nt, hk]; show (if l < r.top then Sum.inl (vOut 5 l e) else _) = _; rw [if_pos c2, evo])
        · have g := h.goodRec hk
          have hb : r.top = r.bot := by
            rcases g.chain with c | c
            · exact c
            · rw [f1] at c; simp [chainedB] at c
          have htop : r.top = l := by omega
          have hv : viewAct M 5 e l = .inl (r.lo, r.hi, 0) := by
            unfold viewAct
            rw [if_neg nv, if_neg nl, if_neg nt, hk]
            show (if l < r.top then Sum.inl (vOut 5 l e) else if ((5 : Int) = 3 ∨ (5 : Int) = 4) ∧ r.bot ≠ r.top then _ else _) = _
            rw [if_neg c2, if_neg (by omega)]
          rw [hv]
          have hw := right_rec hR hk
          have hw' : ¬ (r.hi.to = 0 ∧ r.lo.tag = l + 1) := by
            rintro ⟨a, b⟩
            unfold wrongB at hw
            rw [if_pos rfl, htop] at hw
            simp [a, b] at hw
          have glo := g.lo
          have ghi := g.hi
          rw [f1, ← hb, htop] at glo ghi
          have hrec : (⟨5, l, l, r.lo, r.hi⟩ : Rec) = r := by cases r; simp_all
          have ha : tAct M l r.lo r.hi = .inr r := by
            unfold tAct
            rw [if_neg nv, if_neg (by rw [glo, ghi]; simp), if_neg (g.apart (by omega) (by omega)), if_neg hw', hrec]
          show _ ∧ _ ∧ actErr M (tAct M l r.lo r.hi) = 0 ∧ actE M (tAct M l r.lo r.hi) = e
          rw [ha]
          obtain ⟨a, b, c⟩ := find_old h hk
          refine ⟨rfl, rfl, a, ?_⟩
          show foundE M r.top r = e
          rw [foundE_ok a, b, htop, ← ht]

/-- What the chained forms share: the edge is none's or a node's further down: View tells it. -/
theorem law3 {M : St} (h : M.wf) {e : Edge} {l : Int} (he : e.ok) (h0 : 0 ≤ l) (h1 : l < M.n) (hroom : M.len < M.room) (hR : rightL M 3 e l = true) :
    vErr M (viewAct M 3 e l) = 0 ∧ actErr (vSt M (viewAct M 3 e l)) (makeAct (vSt M (viewAct M 3 e l)) 3 l (vLo M (viewAct M 3 e l)) (vHi M 3 (viewAct M 3 e l)) (cRest (vSt M (viewAct M 3 e l)) l (vLo M (viewAct M 3 e l)) (vHi M 3 (viewAct M 3 e l)))) = 0 ∧
      actE0 (vSt M (viewAct M 3 e l)) (makeAct (vSt M (viewAct M 3 e l)) 3 l (vLo M (viewAct M 3 e l)) (vHi M 3 (viewAct M 3 e l)) (cRest (vSt M (viewAct M 3 e l)) l (vLo M (viewAct M 3 e l)) (vHi M 3 (viewAct M 3 e l)))) = e := by
  have hL := right_leads hR
  obtain ⟨hp, hr⟩ := leads_iff.1 hL
  obtain ⟨p1, p2, p3, p4, p5, p6, p7, p8⟩ := plainB_iff.1 hp
  have ht : e.tag = 0 := p7 (.inl (by omega))
  have nv : ¬ (l < 0 ∨ M.n ≤ l) := by omega
  have nl : ¬ M.leads 3 e l = false := by rw [hL]; simp
  have nt : ¬ ((3 : Int) = 5 ∧ (e.to = 0 ∨ l < e.tag)) := by omega
  have evo : vOut 3 l e = (e, e, 0) := by simp [vOut]
  have same : M.leads 3 e (l + 1) = true → viewAct M 3 e l = .inl (e, e, 0) → vErr M (viewAct M 3 e l) = 0 ∧ actErr (vSt M (viewAct M 3 e l)) (makeAct (vSt M (viewAct M 3 e l)) 3 l (vLo M (viewAct M 3 e l)) (vHi M 3 (viewAct M 3 e l)) (cRest (vSt M (viewAct M 3 e l)) l (vLo M (viewAct M 3 e l)) (vHi M 3 (viewAct M 3 e l)))) = 0 ∧
      actE0 (vSt M (viewAct M 3 e l)) (makeAct (vSt M (viewAct M 3 e l)) 3 l (vLo M (viewAct M 3 e l)) (vHi M 3 (viewAct M 3 e l)) (cRest (vSt M (viewAct M 3 e l)) l (vLo M (viewAct M 3 e l)) (vHi M 3 (viewAct M 3 e l)))) = e := by
    intro h2 hv
    rw [hv]
    show _ ∧ actErr M (makeAct M 3 l e e (cRest M l e e)) = 0 ∧ actE0 M (makeAct M 3 l e e (cRest M l e e)) = e
    have : makeAct M 3 l e e (cRest M l e e) = .inl (e, 0) := by unfold makeAct cRest; rw [if_neg nv, if_neg (by rw [h2]; simp), if_pos rfl]
    rw [this]
    exact ⟨rfl, rfl, rfl⟩
  cases hk : look M.cs e.to with
  | none =>
    have hlt : e.to < 2 := by
      rcases hr with hr | ⟨r, q1, _⟩
      · exact hr
      · rw [hk] at q1; cases q1
    exact same (leads_iff.2 ⟨plainB_iff.2 ⟨p1, p2, p3, p4, by omega, by omega, p7, fun a => by omega⟩, .inl hlt⟩) (by unfold viewAct; rw [if_neg nv, if_neg nl, if_neg nt, hk]; show Sum.inl (vOut 3 l e) = _; rw [evo])
  | some r =>
    obtain ⟨f1, f2, f3⟩ := leads_some hL hk
    by_cases c2 : l < r.top
    · exact same (leads_iff.2 ⟨plainB_iff.2 ⟨p1, p2, p3, p4, by omega, by omega, p7, fun a => by omega⟩, .inr ⟨r, hk, f1, by omega, f3⟩⟩) (by unfold viewAct; rw [if_neg nv, if_neg nl, if_neg nt, hk]; show (if l < r.top then Sum.inl (vOut 3 l e) else _) = _; rw [if_pos c2, evo])
    · have g := h.goodRec hk
      have htop : r.top = l := by omega
      have hw := right_rec hR hk
      have gtb := g.tb
      have gbn := g.bn
      have gap := g.apart (by omega) (by omega)
      by_cases hb : r.bot = r.top
      · have hv : viewAct M 3 e l = .inl (r.lo, r.hi, 0) := by
          unfold viewAct
          rw [if_neg nv, if_neg nl, if_neg nt, hk]
          show (if l < r.top then Sum.inl (vOut 3 l e) else if ((3 : Int) = 3 ∨ (3 : Int) = 4) ∧ r.bot ≠ r.top then _ else _) = _
          rw [if_neg c2, if_neg (by omega)]
        rw [hv]
        show _ ∧ actErr M (makeAct M 3 l r.lo r.hi (cRest M l r.lo r.hi)) = 0 ∧ actE0 M (makeAct M 3 l r.lo r.hi (cRest M l r.lo r.hi)) = e
        have glo := g.lo
        have ghi := g.hi
        rw [f1, hb, htop] at glo ghi
        have hrec : (⟨3, l, l, r.lo, r.hi⟩ : Rec) = r := by cases r; simp_all
        have hc : cRest M l r.lo r.hi = .inr r := by
          unfold cRest
          rw [if_neg gap]
          cases hy : look M.cs r.lo.to with
          | none => simp only []; rw [hrec]
          | some y =>
            simp only []
            by_cases c3 : y.top = l + 1
            · rw [if_pos c3, if_neg (fun hh => by
                unfold wrongB at hw
                rw [if_neg (by omega), hy] at hw
                simp only [] at hw
                rw [if_neg (by omega), hb, htop] at hw
                simp [c3, hh] at hw), hrec]
            · rw [if_neg c3, hrec]
        have ha : makeAct M 3 l r.lo r.hi (cRest M l r.lo r.hi) = .inr r := by unfold makeAct; rw [if_neg nv, if_neg (by rw [glo, ghi]; simp), hc]
        rw [ha]
        obtain ⟨a, b, c⟩ := find_old h hk
        refine ⟨rfl, a, ?_⟩
        show foundE M 0 r = e
        rw [foundE_ok a, b, ← ht]
      · have hv : viewAct M 3 e l = .inr ⟨r.form, r.top + 1, r.bot, r.lo, r.hi⟩ := by
          unfold viewAct
          rw [if_neg nv, if_neg nl, if_neg nt, hk]
          show (if l < r.top then Sum.inl (vOut 3 l e) else if ((3 : Int) = 3 ∨ (3 : Int) = 4) ∧ r.bot ≠ r.top then _ else _) = _
          rw [if_neg c2, if_pos ⟨.inl rfl, hb⟩]
        obtain ⟨q, hq⟩ : ∃ q : Rec, q = ⟨r.form, r.top + 1, r.bot, r.lo, r.hi⟩ := ⟨_, rfl⟩
        have hbad : M.bad q = false := by rw [hq]; exact rest_good g p4 (by omega) (.inl f1) hb
        obtain ⟨w1, w2, w3, w4, w5, w6⟩ := find_good h hbad hroom
        rw [hv, ← hq]
        show M.findErr q = 0 ∧ actErr (M.findSt q) (makeAct (M.findSt q) 3 l (foundE M 0 q) (if M.findErr q = 0 then (if (3 : Int) = 4 then foundE M 0 q else q.hi) else ⟨0, 0⟩) (cRest (M.findSt q) l (foundE M 0 q) (if M.findErr q = 0 then (if (3 : Int) = 4 then foundE M 0 q else q.hi) else ⟨0, 0⟩))) = 0 ∧
          actE0 (M.findSt q) (makeAct (M.findSt q) 3 l (foundE M 0 q) (if M.findErr q = 0 then (if (3 : Int) = 4 then foundE M 0 q else q.hi) else ⟨0, 0⟩) (cRest (M.findSt q) l (foundE M 0 q) (if M.findErr q = 0 then (if (3 : Int) = 4 then foundE M 0 q else q.hi) else ⟨0, 0⟩))) = e
        rw [if_pos w1, if_neg (by omega), foundE_ok w1]
        have qhi : q.hi = r.hi := by rw [hq]
        have qtop : q.top = l + 1 := by rw [hq, ← htop]
        have qform : q.form = 3 := by rw [hq]; exact f1
        rw [qhi]
        have nv2 : ¬ (l < 0 ∨ (M.findSt q).n ≤ l) := by rw [w4]; omega
        have l1 : (M.findSt q).leads 3 ⟨0, M.findId q⟩ (l + 1) = true := leads_iff.2 ⟨plainB_iff.2 ⟨p1, p2, by rw [w4]; exact p3, by rw [w4]; exact p4, by omega, by rw [w4]; omega, fun _ => rfl, fun a => by omega⟩, .inr ⟨q, w2, qform, by omega, by show (0 : Int) ≤ q.top; omega⟩⟩
        have ghi := g.hi
        rw [f1] at ghi
        have l3 : (M.findSt q).leads 3 r.hi (r.bot + 1) = true := leads_mono w4 w3 ghi
        have l2 := leads_down l3 (show 0 ≤ l + 1 by omega) (by omega)
        have nlo : ¬ (⟨0, M.findId q⟩ : Edge) = r.hi := by
          intro hh
          have e2 : look (M.findSt q).cs r.hi.to = some q := by rw [← hh]; exact w2
          have := (leads_some l3 e2).2.1
          omega
        have hrec : (⟨3, l, q.bot, q.lo, r.hi⟩ : Rec) = r := by rw [hq]; cases r; simp_all
        have hc : cRest (M.findSt q) l ⟨0, M.findId q⟩ r.hi = .inr r := by
          unfold cRest
          rw [if_neg nlo]
          show (match look (M.findSt q).cs (M.findId q) with | none => _ | some z => _) = _
          rw [w2]
          simp only []
          rw [if_pos qtop, if_pos qhi, hrec]
        have ha : makeAct (M.findSt q) 3 l ⟨0, M.findId q⟩ r.hi (cRest (M.findSt q) l ⟨0, M.findId q⟩ r.hi) = .inr r := by unfold makeAct; rw [if_neg nv2, if_neg (by rw [l1, l2]; simp), hc]
        rw [ha]
        obtain ⟨a, b, c⟩ := find_old w5 (w3 _ _ hk)
        refine ⟨w1, a, ?_⟩
        show foundE (M.findSt q) 0 r = e
        rw [foundE_ok a, b, ← ht]

theorem law4 {M : St} (h : M.wf) {e : Edge} {l : Int} (he : e.ok) (h0 : 0 ≤ l) (h1 : l < M.n) (hroom : M.len < M.room) (hR : rightL M 4 e l = true) :
    vErr M (viewAct M 4 e l) = 0 ∧ actErr (vSt M (viewAct M 4 e l)) (makeAct (vSt M (viewAct M 4 e l)) 4 l (vLo M (viewAct M 4 e l)) (vHi M 4 (viewAct M 4 e l)) (qRest (vSt M (viewAct M 4 e l)) l (vLo M (viewAct M 4 e l)) (vHi M 4 (viewAct M 4 e l)))) = 0 ∧
      actE0 (vSt M (viewAct M 4 e l)) (makeAct (vSt M (viewAct M 4 e l)) 4 l (vLo M (viewAct M 4 e l)) (vHi M 4 (viewAct M 4 e l)) (qRest (vSt M (viewAct M 4 e l)) l (vLo M (viewAct M 4 e l)) (vHi M 4 (viewAct M 4 e l)))) = e := by
  have hL := right_leads hR
  obtain ⟨hp, hr⟩ := leads_iff.1 hL
  obtain ⟨p1, p2, p3, p4, p5, p6, p7, p8⟩ := plainB_iff.1 hp
  have ht : e.tag = 0 := p7 (.inl (by omega))
  have nv : ¬ (l < 0 ∨ M.n ≤ l) := by omega
  have nl : ¬ M.leads 4 e l = false := by rw [hL]; simp
  have nt : ¬ ((4 : Int) = 5 ∧ (e.to = 0 ∨ l < e.tag)) := by omega
  have evo : vOut 4 l e = (e, ⟨0, 0⟩, 0) := by simp [vOut]
  have hz : M.leads 4 ⟨0, 0⟩ (l + 1) = true := leads_iff.2 ⟨plainB_iff.2 ⟨by omega, by omega, p3, p4, by omega, by omega, fun _ => rfl, fun a => by omega⟩, .inl (by show (0 : Int) < 2; omega)⟩
  have same : M.leads 4 e (l + 1) = true → viewAct M 4 e l = .inl (e, ⟨0, 0⟩, 0) → vErr M (viewAct M 4 e l) = 0 ∧ actErr (vSt M (viewAct M 4 e l)) (makeAct (vSt M (viewAct M 4 e l)) 4 l (vLo M (viewAct M 4 e l)) (vHi M 4 (viewAct M 4 e l)) (qRest (vSt M (viewAct M 4 e l)) l (vLo M (viewAct M 4 e l)) (vHi M 4 (viewAct M 4 e l)))) = 0 ∧
      actE0 (vSt M (viewAct M 4 e l)) (makeAct (vSt M (viewAct M 4 e l)) 4 l (vLo M (viewAct M 4 e l)) (vHi M 4 (viewAct M 4 e l)) (qRest (vSt M (viewAct M 4 e l)) l (vLo M (viewAct M 4 e l)) (vHi M 4 (viewAct M 4 e l)))) = e := by
    intro h2 hv
    rw [hv]
    show _ ∧ actErr M (makeAct M 4 l e ⟨0, 0⟩ (qRest M l e ⟨0, 0⟩)) = 0 ∧ actE0 M (makeAct M 4 l e ⟨0, 0⟩ (qRest M l e ⟨0, 0⟩)) = e
    have : makeAct M 4 l e ⟨0, 0⟩ (qRest M l e ⟨0, 0⟩) = .inl (e, 0) := by unfold makeAct qRest; rw [if_neg nv, if_neg (by rw [h2, hz]; simp), if_pos rfl]
    rw [this]
    exact ⟨rfl, rfl, rfl⟩
  cases hk : look M.cs e.to with
  | none =>
    have hlt : e.to < 2 := by
      rcases hr with hr | ⟨r, q1, _⟩
      · exact hr
      · rw [hk] at q1; cases q1
    exact same (leads_iff.2 ⟨plainB_iff.2 ⟨p1, p2, p3, p4, by omega, by omega, p7, fun a => by omega⟩, .inl hlt⟩) (by unfold viewAct; rw [if_neg nv, if_neg nl, if_neg nt, hk]; show Sum.inl (vOut 4 l e) = _; rw [evo])
  | some r =>
    obtain ⟨f1, f2, f3⟩ := leads_some hL hk
    by_cases c2 : l < r.top
    · exact same (leads_iff.2 ⟨plainB_iff.2 ⟨p1, p2, p3, p4, by omega, by omega, p7, fun a => by omega⟩, .inr ⟨r, hk, f1, by omega, f3⟩⟩) (by unfold viewAct; rw [if_neg nv, if_neg nl, if_neg nt, hk]; show (if l < r.top then Sum.inl (vOut 4 l e) else _) = _; rw [if_pos c2, evo])
    · have g := h.goodRec hk
      have htop : r.top = l := by omega
      have hw := right_rec hR hk
      have gtb := g.tb
      have gbn := g.bn
      have gz := g.zero (.inr f1)
      by_cases hb : r.bot = r.top
      · have hv : viewAct M 4 e l = .inl (r.lo, r.hi, 0) := by
          unfold viewAct
          rw [if_neg nv, if_neg nl, if_neg nt, hk]
          show (if l < r.top then Sum.inl (vOut 4 l e) else if ((4 : Int) = 3 ∨ (4 : Int) = 4) ∧ r.bot ≠ r.top then _ else _) = _
          rw [if_neg c2, if_neg (by omega)]
        rw [hv]
        show _ ∧ actErr M (makeAct M 4 l r.lo r.hi (qRest M l r.lo r.hi)) = 0 ∧ actE0 M (makeAct M 4 l r.lo r.hi (qRest M l r.lo r.hi)) = e
        have glo := g.lo
        have ghi := g.hi
        rw [f1, hb, htop] at glo ghi
        have hrec : (⟨4, l, l, r.lo, r.hi⟩ : Rec) = r := by cases r; simp_all
        have hc : qRest M l r.lo r.hi = .inr r := by
          unfold qRest
          rw [if_neg gz]
          cases hy : look M.cs r.lo.to with
          | none => simp only []; rw [hrec]
          | some y =>
            simp only []
            by_cases c3 : r.lo = r.hi
            · rw [if_pos c3, if_neg (fun hh => by
                unfold wrongB at hw
                rw [if_neg (by omega), hy] at hw
                simp only [] at hw
                rw [if_pos trivial, hb, htop] at hw
                simp [c3, hh] at hw), hrec]
            · rw [if_neg c3, hrec]
        have ha : makeAct M 4 l r.lo r.hi (qRest M l r.lo r.hi) = .inr r := by unfold makeAct; rw [if_neg nv, if_neg (by rw [glo, ghi]; simp), hc]
        rw [ha]
        obtain ⟨a, b, c⟩ := find_old h hk
        refine ⟨rfl, a, ?_⟩
        show foundE M 0 r = e
        rw [foundE_ok a, b, ← ht]
      · have hv : viewAct M 4 e l = .inr ⟨r.form, r.top + 1, r.bot, r.lo, r.hi⟩ := by
          unfold viewAct
          rw [if_neg nv, if_neg nl, if_neg nt, hk]
          show (if l < r.top then Sum.inl (vOut 4 l e) else if ((4 : Int) = 3 ∨ (4 : Int) = 4) ∧ r.bot ≠ r.top then _ else _) = _
          rw [if_neg c2, if_pos ⟨.inr rfl, hb⟩]
        obtain ⟨q, hq⟩ : ∃ q : Rec, q = ⟨r.form, r.top + 1, r.bot, r.lo, r.hi⟩ := ⟨_, rfl⟩
        have hbad : M.bad q = false := by rw [hq]; exact rest_good g p4 (by omega) (.inr f1) hb
        obtain ⟨w1, w2, w3, w4, w5, w6⟩ := find_good h hbad hroom
        rw [hv, ← hq]
        show M.findErr q = 0 ∧ actErr (M.findSt q) (makeAct (M.findSt q) 4 l (foundE M 0 q) (if M.findErr q = 0 then (if (4 : Int) = 4 then foundE M 0 q else q.hi) else ⟨0, 0⟩) (qRest (M.findSt q) l (foundE M 0 q) (if M.findErr q = 0 then (if (4 : Int) = 4 then foundE M 0 q else q.hi) else ⟨0, 0⟩))) = 0 ∧
          actE0 (M.findSt q) (makeAct (M.findSt q) 4 l (foundE M 0 q) (if M.findErr q = 0 then (if (4 : Int) = 4 then foundE M 0 q else q.hi) else ⟨0, 0⟩) (qRest (M.findSt q) l (foundE M 0 q) (if M.findErr q = 0 then (if (4 : Int) = 4 then foundE M 0 q else q.hi) else ⟨0, 0⟩))) = e
        rw [if_pos w1, if_pos rfl, foundE_ok w1]
        have qtop : q.top = l + 1 := by rw [hq, ← htop]
        have qform : q.form = 4 := by rw [hq]; exact f1
        have nv2 : ¬ (l < 0 ∨ (M.findSt q).n ≤ l) := by rw [w4]; omega
        have l1 : (M.findSt q).leads 4 ⟨0, M.findId q⟩ (l + 1) = true := leads_iff.2 ⟨plainB_iff.2 ⟨p1, p2, by rw [w4]; exact p3, by rw [w4]; exact p4, by omega, by rw [w4]; omega, fun _ => rfl, fun a => by omega⟩, .inr ⟨q, w2, qform, by omega, by show (0 : Int) ≤ q.top; omega⟩⟩
        have hrec : (⟨4, l, q.bot, q.lo, q.hi⟩ : Rec) = r := by rw [hq]; cases r; simp_all
        have hc : qRest (M.findSt q) l ⟨0, M.findId q⟩ ⟨0, M.findId q⟩ = .inr r := by
          unfold qRest
          rw [if_neg (by show ¬ M.findId q = 0; omega)]
          show (match look (M.findSt q).cs (M.findId q) with | none => _ | some z => _) = _
          rw [w2]
          simp only []
          rw [if_pos trivial, if_pos qtop, hrec]
        have ha : makeAct (M.findSt q) 4 l ⟨0, M.findId q⟩ ⟨0, M.findId q⟩ (qRest (M.findSt q) l ⟨0, M.findId q⟩ ⟨0, M.findId q⟩) = .inr r := by unfold makeAct; rw [if_neg nv2, if_neg (by rw [l1]; simp), hc]
        rw [ha]
        obtain ⟨a, b, c⟩ := find_old w5 (w3 _ _ hk)
        refine ⟨w1, a, ?_⟩
        show foundE (M.findSt q) 0 r = e
        rw [foundE_ok a, b, ← ht]

end Go.Proofs.Ytiacdpoldgfpbaa

/-
  What View tells fits.
-/
namespace Go.Proofs.Ytiacdpoldgfpbaa
set_option linter.unusedSimpArgs false
set_option linter.unusedVariables false
set_option maxHeartbeats 600000

theorem findId_fit {M : St} (h : M.wf) (hf : M.cs.length ≤ 1048576) (r : Rec) : 0 ≤ M.findId r ∧ M.findId r ≤ 4294967295 := by
  unfold St.findId
  cases hi : M.idOf r with
  | some id => have := look_some (idOf_look hi); simp only []; omega
  | none =>
    simp only []
    have := putId_range h.gone
    split
    · omega
    · split <;> omega

theorem foundE_fit {M : St} (h : M.wf) (hf : M.cs.length ≤ 1048576) (t : Int) (ht : 0 ≤ t ∧ t ≤ 255) (r : Rec) : (foundE M t r).ok := by
  unfold foundE
  split
  · exact ⟨ht, findId_fit h hf r⟩
  · exact ⟨⟨by show (0 : Int) ≤ 0; omega, by show (0 : Int) ≤ 255; omega⟩, ⟨by show (0 : Int) ≤ 0; omega, by show (0 : Int) ≤ 4294967295; omega⟩⟩

theorem edge0_ok : (⟨0, 0⟩ : Edge).ok := ⟨by decide, by decide⟩

theorem view_fit {M : St} (h : M.wf) (hf : M.cs.length ≤ 1048576) (hfit : ∀ id r, look M.cs id = some r → r.ok) {f : Int} {e : Edge} {l : Int} (he : e.ok) (h0 : 0 ≤ l) (h1 : l < M.n) :
    (vLo M (viewAct M f e l)).ok ∧ (vHi M f (viewAct M f e l)).ok := by
  have hn := h.n16
  have hout : (vOut f l e).1.ok ∧ (vOut f l e).2.1.ok := by
    unfold vOut
    split
    · exact ⟨he, he⟩
    · split
      · exact ⟨⟨⟨by show 0 ≤ l + 1; omega, by show l + 1 ≤ 255; omega⟩, he.2⟩, edge0_ok⟩
      · exact ⟨he, edge0_ok⟩
  unfold viewAct
  split
  · exact ⟨edge0_ok, edge0_ok⟩
  · split
    · exact ⟨edge0_ok, edge0_ok⟩
    · split
      · exact ⟨he, he⟩
      · cases hk : look M.cs e.to with
        | none => exact hout
        | some r =>
          have hok := hfit _ _ hk
          simp only []
          split
          · exact hout
          · split
            · refine ⟨foundE_fit h hf 0 (by omega) _, ?_⟩
              show (if M.findErr _ = 0 then (if f = 4 then foundE M 0 _ else _) else ⟨0, 0⟩ : Edge).ok
              split
              · split
                · exact foundE_fit h hf 0 (by omega) _
                · exact hok.hi
              · exact edge0_ok
            · exact ⟨hok.lo, hok.hi⟩

end Go.Proofs.Ytiacdpoldgfpbaa
