/-
  The state of a store, plainly: cells by ids, ids that went, the variables, the room; and what the store's functions make of it.
-/
import Derived.Test.YtimffidpbcflaaaArena2
import Derived.Test.YtimffidpbcflaaaTable
namespace Go.Proofs.Ytimffidpbcflaaa
set_option linter.unusedSimpArgs false
set_option linter.unusedVariables false
set_option maxHeartbeats 600000

structure St where
  cs : List (Option Rec)
  gone : List Int
  n : Int
  room : Int

/-- How many nodes. -/
def St.len (M : St) : Int := (M.cs.length : Int) - (M.gone.length : Int)

/-- The id of a record. -/
def St.idOf (M : St) (r : Rec) : Option Int := (M.cs.findIdx? (fun o => decide (o = some r))).map (fun i => (i : Int) + 2)

def St.leads (M : St) (f : Int) (e : Edge) (l : Int) : Bool :=
  plainB f e l M.n && (decide (e.to < 2) || match look M.cs e.to with
    | some r => r.form == f && decide (l ≤ r.top) && decide (e.tag ≤ r.top)
    | none => false)

def St.bad (M : St) (r : Rec) : Bool := !rightB r M.n || !M.leads r.form r.lo (r.bot + 1) || !M.leads r.form r.hi (r.bot + 1)

def St.findId (M : St) (r : Rec) : Int :=
  match M.idOf r with
  | some id => id
  | none => if M.bad r then 0 else if M.room ≤ M.len then 0 else putId M.gone M.cs.length

def St.findErr (M : St) (r : Rec) : Int :=
  match M.idOf r with
  | some _ => 0
  | none => if M.bad r then 1 else if M.room ≤ M.len then 6 else 0

def St.findSt (M : St) (r : Rec) : St :=
  match M.idOf r with
  | some _ => M
  | none => if M.bad r then M else if M.room ≤ M.len then M else { M with cs := putCs M.cs M.gone r, gone := M.gone.dropLast }

theorem look_get {cs : List (Option Rec)} {i : Nat} {r : Rec} : look cs ((i : Int) + 2) = some r ↔ cs[i]? = some (some r) := by
  have h2 : ¬ (i : Int) + 2 < 2 := by omega
  have h3 : ((i : Int) + 2 - 2).toNat = i := by omega
  unfold look
  rw [if_neg h2, h3]
  cases h : cs[i]? with
  | none => simp
  | some x => simp

theorem idOf_look {M : St} {r : Rec} {id : Int} (h : M.idOf r = some id) : look M.cs id = some r := by
  unfold St.idOf at h
  cases hf : M.cs.findIdx? (fun o => decide (o = some r)) with
  | none => rw [hf] at h; simp at h
  | some i =>
    rw [hf] at h
    simp at h
    obtain ⟨hi, hp, _⟩ := List.findIdx?_eq_some_iff_getElem.1 hf
    subst h
    rw [look_get, List.getElem?_eq_getElem hi]
    simpa using hp

theorem idOf_none {M : St} {r : Rec} (h : M.idOf r = none) (id : Int) : look M.cs id ≠ some r := by
  intro hl
  obtain ⟨h2, h3, h4⟩ := look_some hl
  unfold St.idOf at h
  have hn : M.cs.findIdx? (fun o => decide (o = some r)) = none := by
    cases hf : M.cs.findIdx? (fun o => decide (o = some r)) with
    | none => rfl
    | some i => rw [hf] at h; simp at h
  rw [List.findIdx?_eq_none_iff] at hn
  have := hn (some r) (List.mem_of_getElem? h4)
  simp at this

/-- Each record once. -/
def St.once (M : St) : Prop := ∀ r id id', look M.cs id = some r → look M.cs id' = some r → id = id'

theorem idOf_iff {M : St} (h : M.once) (r : Rec) (id : Int) : look M.cs id = some r ↔ M.idOf r = some id := by
  constructor
  · intro hl
    cases hi : M.idOf r with
    | none => exact (idOf_none hi id hl).elim
    | some id' => rw [h r id id' hl (idOf_look hi)]
  · exact idOf_look

/-- What a Put makes of the cells. -/
theorem look_put {cs : List (Option Rec)} {gone : List Int} {r : Rec} (hg : ∀ id ∈ gone, 2 ≤ id ∧ id - 2 < (cs.length : Int) ∧ look cs id = none) (id : Int) (r' : Rec) :
    look (putCs cs gone r) id = some r' ↔ (id = putId gone cs.length ∧ r' = r) ∨ look cs id = some r' := by
  unfold putCs putId
  cases hl : gone.getLast? with
  | none =>
    simp only []
    constructor
    · intro h
      obtain ⟨h2, h3, h4⟩ := look_some h
      by_cases hc : (id - 2).toNat < cs.length
      · right
        rw [List.getElem?_append_left hc] at h4
        have := look_get.2 h4
        rwa [show (((id - 2).toNat : Nat) : Int) + 2 = id by omega] at this
      · left
        rw [List.getElem?_append_right (by omega)] at h4
        simp at h3
        have e : (id - 2).toNat - cs.length = 0 := by omega
        rw [e] at h4
        simp at h4
        exact ⟨by omega, h4.symm⟩
    · rintro (⟨rfl, rfl⟩ | h)
      · rw [look_get]; simp
      · obtain ⟨h2, h3, h4⟩ := look_some h
        have := (look_get (cs := cs ++ [some r]) (i := (id - 2).toNat) (r := r')).2 (by rw [List.getElem?_append_left (by omega)]; exact h4)
        rwa [show (((id - 2).toNat : Nat) : Int) + 2 = id by omega] at this
  | some x =>
    simp only []
    obtain ⟨gs, hgs⟩ := List.getLast?_eq_some_iff.1 hl
    obtain ⟨x2, x3, x4⟩ := hg x (by rw [hgs]; simp)
    have hxl : (x - 2).toNat < cs.length := by omega
    constructor
    · intro h
      obtain ⟨h2, h3, h4⟩ := look_some h
      rw [List.getElem?_set] at h4
      split at h4
      · rename_i he
        left
        simp [hxl] at h4
        exact ⟨by omega, h4.symm⟩
      · right
        have := look_get.2 h4
        rwa [show (((id - 2).toNat : Nat) : Int) + 2 = id by omega] at this
    · rintro (⟨rfl, rfl⟩ | h)
      · have := (look_get (cs := cs.set (id - 2).toNat (some r')) (i := (id - 2).toNat) (r := r')).2 (by simp [hxl])
        rwa [show (((id - 2).toNat : Nat) : Int) + 2 = id by omega] at this
      · obtain ⟨h2, h3, h4⟩ := look_some h
        have hne : (x - 2).toNat ≠ (id - 2).toNat := by
          intro e
          have : x = id := by omega
          subst this
          rw [x4] at h
          cases h
        have := (look_get (cs := cs.set (x - 2).toNat (some r)) (i := (id - 2).toNat) (r := r')).2 (by rw [List.getElem?_set, if_neg hne]; exact h4)
        rwa [show (((id - 2).toNat : Nat) : Int) + 2 = id by omega] at this

/-- What holds of the state of a store. -/
structure St.wf (M : St) : Prop where
  n0 : 0 ≤ M.n
  n16 : M.n ≤ 16
  gone : ∀ id ∈ M.gone, 2 ≤ id ∧ id - 2 < (M.cs.length : Int) ∧ look M.cs id = none
  nodup : M.gone.Nodup
  good : ∀ id r, look M.cs id = some r → M.bad r = false
  once : M.once
  len0 : 0 ≤ M.len
  room0 : 0 ≤ M.room
  room1 : M.room ≤ 1048576
  full : M.len ≤ M.room

theorem leads_mono {M M' : St} (hn : M'.n = M.n) (hl : ∀ id r, look M.cs id = some r → look M'.cs id = some r) {f : Int} {e : Edge} {l : Int} (h : M.leads f e l = true) : M'.leads f e l = true := by
  unfold St.leads at h ⊢
  rw [hn]
  simp only [Bool.and_eq_true, Bool.or_eq_true] at h ⊢
  refine ⟨h.1, ?_⟩
  rcases h.2 with h2 | h2
  · exact .inl h2
  · right
    cases hk : look M.cs e.to with
    | none => rw [hk] at h2; simp at h2
    | some r => rw [hl _ _ hk]; rw [hk] at h2; exact h2

theorem bad_mono {M M' : St} (hn : M'.n = M.n) (hl : ∀ id r, look M.cs id = some r → look M'.cs id = some r) {r : Rec} (h : M.bad r = false) : M'.bad r = false := by
  unfold St.bad at h ⊢
  simp only [Bool.or_eq_false_iff, Bool.not_eq_false'] at h ⊢
  exact ⟨⟨by rw [hn]; exact h.1.1, leads_mono hn hl h.1.2⟩, leads_mono hn hl h.2⟩

theorem putLen {cs : List (Option Rec)} {gone : List Int} {r : Rec} : ((putCs cs gone r).length : Int) - (gone.dropLast.length : Int) = (cs.length : Int) - (gone.length : Int) + 1 := by
  unfold putCs
  cases hl : gone.getLast? with
  | none =>
    have : gone = [] := by simpa using hl
    subst this
    simp
  | some x =>
    obtain ⟨gs, hgs⟩ := List.getLast?_eq_some_iff.1 hl
    subst hgs
    simp
    omega

theorem putId_range {cs : List (Option Rec)} {gone : List Int} (hg : ∀ id ∈ gone, 2 ≤ id ∧ id - 2 < (cs.length : Int) ∧ look cs id = none) : 2 ≤ putId gone cs.length ∧ putId gone cs.length ≤ (cs.length : Int) + 2 ∧ look cs (putId gone cs.length) = none := by
  unfold putId
  cases hl : gone.getLast? with
  | none =>
    refine ⟨by simp only []; omega, by simp only []; omega, ?_⟩
    simp only []
    cases hk : look cs ((cs.length : Int) + 2) with
    | none => rfl
    | some r => have := look_some hk; omega
  | some x =>
    obtain ⟨gs, hgs⟩ := List.getLast?_eq_some_iff.1 hl
    obtain ⟨h1, h2, h3⟩ := hg x (by rw [hgs]; simp)
    exact ⟨h1, by simp only []; omega, h3⟩

/-- A state with one record more. -/
def St.add (M : St) (r : Rec) : St := { M with cs := putCs M.cs M.gone r, gone := M.gone.dropLast }

theorem St.wf.look_add {M : St} (h : M.wf) (r : Rec) (id : Int) (r' : Rec) : look (M.add r).cs id = some r' ↔ (id = putId M.gone M.cs.length ∧ r' = r) ∨ look M.cs id = some r' := look_put h.gone id r'

theorem St.len_add (M : St) (r : Rec) : (M.add r).len = M.len + 1 := putLen

theorem St.wf.add {M : St} (h : M.wf) {r : Rec} (hno : M.idOf r = none) (hb : M.bad r = false) (hroom : M.len < M.room) : (M.add r).wf := by
  have hl := h.look_add r
  have hsub : ∀ id r', look M.cs id = some r' → look (M.add r).cs id = some r' := fun id r' hh => (hl id r').2 (.inr hh)
  have hlen := M.len_add r
  refine ⟨h.n0, h.n16, ?_, ?_, ?_, ?_, ?_, h.room0, h.room1, ?_⟩
  · intro id hid
    replace hid : id ∈ M.gone.dropLast := hid
    have hid' : id ∈ M.gone := (List.dropLast_sublist _).mem hid
    obtain ⟨g1, g2, g3⟩ := h.gone id hid'
    refine ⟨g1, ?_, ?_⟩
    · have := @set_len_le M.cs M.gone r
      show id - 2 < ((putCs M.cs M.gone r).length : Int)
      omega
    · cases hk : look (M.add r).cs id with
      | none => rfl
      | some r' =>
        exfalso
        rcases (hl id r').1 hk with ⟨e, _⟩ | e
        · cases hg : M.gone.getLast? with
          | none =>
            have : M.gone = [] := by simpa using hg
            rw [this] at hid'
            simp at hid'
          | some x =>
            have hx : putId M.gone M.cs.length = x := by unfold putId; rw [hg]
            obtain ⟨gs, hgs⟩ := List.getLast?_eq_some_iff.1 hg
            have hnd := h.nodup
            rw [hgs] at hnd hid
            simp at hid
            rw [List.nodup_append] at hnd
            exact hnd.2.2 id hid x (by simp) (e.trans hx)
        · rw [g3] at e
          cases e
  · exact List.Nodup.sublist (List.dropLast_sublist _) h.nodup
  · intro id r' hk
    rcases (hl id r').1 hk with ⟨_, rfl⟩ | hk
    · exact bad_mono (M := M) (M' := M.add r') rfl hsub hb
    · exact bad_mono (M := M) (M' := M.add r) rfl hsub (h.good id r' hk)
  · intro r' id id' ha hb'
    rcases (hl id r').1 ha with ⟨e1, e3⟩ | ha2
    · rcases (hl id' r').1 hb' with ⟨e2, _⟩ | hb2
      · rw [e1, e2]
      · rw [e3] at hb2; exact (idOf_none hno id' hb2).elim
    · rcases (hl id' r').1 hb' with ⟨_, e3⟩ | hb2
      · rw [e3] at ha2; exact (idOf_none hno id ha2).elim
      · exact h.once r' id id' ha2 hb2
  · have := h.len0; omega
  · show (M.add r).len ≤ M.room
    omega

theorem St.wf.find {M : St} (h : M.wf) (r : Rec) : (M.findSt r).wf := by
  unfold St.findSt
  cases hi : M.idOf r with
  | some id => exact h
  | none =>
    simp only []
    split
    · exact h
    · split
      · exact h
      · exact h.add hi (by simpa using ‹¬ M.bad r = true›) (by omega)

end Go.Proofs.Ytimffidpbcflaaa
