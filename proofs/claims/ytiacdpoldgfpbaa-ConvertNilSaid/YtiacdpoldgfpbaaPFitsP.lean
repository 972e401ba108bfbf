/-
  Plainly: a diagram with tags, made from below: each node that came in is reached; with more room it could be made.
-/
import Derived.Test.YtiacdpoldgfpbaaPHPlainA
namespace Go.Proofs.Ytiacdpoldgfpbaa
set_option linter.unusedSimpArgs false
set_option linter.unusedVariables false
set_option maxHeartbeats 600000

/-- What came in is reached from an edge. -/
def Fresh (M N : St) (e : Edge) : Prop := ∀ id, look N.cs id ≠ none → look M.cs id ≠ none ∨ Reaches N.cs [e.to] id

theorem reaches_ext {M N : St} (hE : Ext M N) {roots : List Int} {id : Int} (h : Reaches M.cs roots id) : Reaches N.cs roots id := by
  intro S hS hC
  refine h S (fun x hx hl => ?_) (fun x r hx hl => ?_)
  · cases hk : look M.cs x with
    | none => exact absurd hk hl
    | some r => exact hS x hx (by rw [hE.sub _ _ hk]; simp)
  · have hc := hC x r hx (hE.sub _ _ hl)
    refine ⟨fun hh => hc.1 ?_, fun hh => hc.2 ?_⟩
    · cases hk : look M.cs r.lo.to with
      | none => exact absurd hk hh
      | some q => rw [hE.sub _ _ hk]; simp
    · cases hk : look M.cs r.hi.to with
      | none => exact absurd hk hh
      | some q => rw [hE.sub _ _ hk]; simp

theorem reaches_low {cs : List (Option Rec)} {a id : Int} (ha : a < 2) (h : Reaches cs [a] id) : False :=
  h (fun _ => False) (fun x hx hl => by rw [List.mem_singleton] at hx; subst hx; exact hl (look_low ha)) (fun _ _ hh _ => hh.elim)

/-- What the halves reach the whole reaches. -/
theorem up_reach {N : St} {l : Int} {lo hi e : Edge} (h : Both2 5 N l lo hi e) {id : Int} (hr : Reaches N.cs [lo.to] id ∨ Reaches N.cs [hi.to] id) : Reaches N.cs [e.to] id := by
  have hu := h.up
  rw [mk5] at hu
  unfold tAct at hu
  split at hu
  · rcases hu with hu | ⟨r, hu, _⟩ <;> cases hu
  · split at hu
    · rcases hu with hu | ⟨r, hu, _⟩ <;> cases hu
    · split at hu
      · rename_i heq
        rcases hu with hu | ⟨r, hu, _⟩
        · cases hu
          subst heq
          rcases hr with hr | hr <;> exact hr
        · cases hu
      · split at hu
        · rename_i hz
          rcases hu with hu | ⟨r, hu, _⟩
          · cases hu
            rcases hr with hr | hr
            · exact hr
            · exact (reaches_low (by omega) hr).elim
          · cases hu
        · rcases hu with hu | ⟨r, hu, hl, _⟩
          · cases hu
          · cases hu
            have hroot : Reaches N.cs [e.to] e.to := Reaches.root (by simp) (by rw [hl]; simp)
            have hc := Reaches.closed N.cs [e.to] e.to _ hroot hl
            rcases hr with hr | hr
            · exact hr.below (fun y hy hly => by rw [List.mem_singleton] at hy; subst hy; exact hc.1 hly)
            · exact hr.below (fun y hy hly => by rw [List.mem_singleton] at hy; subst hy; exact hc.2 hly)

/-- Make brings in nothing but its own node. -/
theorem fresh_make {N : St} (hw : N.wf) {l : Int} {lo hi : Edge} (hm : Makes 5 N l lo hi) : Fresh N (actSt N (mkA 5 N l lo hi)) (mkE 5 N (mkA 5 N l lo hi)) := by
  intro id hid
  have he := hm.err
  cases ha : mkA 5 N l lo hi with
  | inl x => rw [ha] at hid; exact .inl hid
  | inr r =>
    rw [ha] at hid he
    have hid0 := hid
    have hid : look (N.findSt r).cs id ≠ none := hid
    have he : N.findErr r = 0 := he
    unfold St.findSt at hid
    cases hi : N.idOf r with
    | some i => rw [hi] at hid; exact .inl hid
    | none =>
      rw [hi] at hid
      dsimp only at hid
      split at hid
      · exact .inl hid
      · rename_i hb
        split at hid
        · exact .inl hid
        · rename_i hroom
          cases hl : look (N.add r).cs id with
          | none => exact absurd hl hid
          | some q =>
            rcases (hw.look_add r id q).1 hl with ⟨h1, h2⟩ | h1
            · right
              have hfid : N.findId r = putId N.gone N.cs.length := by unfold St.findId; rw [hi]; simp [hb, hroom]
              have hto : (mkE 5 N (.inr r)).to = id := by
                show (actE N (.inr r)).to = id
                unfold actE
                dsimp only
                rw [foundE_ok he]
                show N.findId r = id
                rw [hfid, h1]
              rw [hto]
              exact Reaches.root (by simp) hid0
            · exact .inl (by rw [h1]; simp)

theorem grown_len {M : St} {l : Int} {lo hi : Edge} : M.len ≤ (actSt M (mkA 5 M l lo hi)).len := by
  cases mkA 5 M l lo hi with
  | inl x => exact Int.le_refl _
  | inr r => exact (findSt_len M r).1

/-- No id has gone. -/
def Packed (M : St) : Prop := M.gone = [] ∧ ∀ o ∈ M.cs, o ≠ none

theorem packed_act {M : St} (h : Packed M) (a : (Edge × Int) ⊕ Rec) : Packed (actSt M a) := by
  cases a with
  | inl x => exact h
  | inr r =>
    show Packed (M.findSt r)
    unfold St.findSt
    cases M.idOf r with
    | some i => exact h
    | none =>
      dsimp only
      split
      · exact h
      · split
        · exact h
        · refine ⟨by show M.gone.dropLast = []; rw [h.1]; rfl, fun o ho => ?_⟩
          have ho : o ∈ putCs M.cs M.gone r := ho
          rw [h.1] at ho
          have ho : o ∈ M.cs ++ [some r] := ho
          rcases List.mem_append.1 ho with ho | ho
          · exact h.2 o ho
          · rw [List.mem_singleton] at ho
            subst ho
            simp

/-- Two halves that were made, and the whole. -/
theorem ideal_top {M N1 N2 : St} {bs : List Bool} {k off : Nat} {l : Int} {lo hi : Edge} (hE1 : Ext M N1) (hE2 : Ext N1 N2) (hw1 : N1.wf) (hw2 : N2.wf) (h0 : 0 ≤ l) (hl : l + ((k + 1 : Nat) : Int) = N2.n)
    (h1 : IsMade 5 N1 bs k off (l + 1) lo) (h2 : IsMade 5 N2 bs k (off + 2 ^ k) (l + 1) hi) (f1 : Fresh M N1 lo) (f2 : Fresh N1 N2 hi) (hroom : N2.len < N2.room) :
    actErr N2 (mkA 5 N2 l lo hi) = 0 ∧ GrownBy N2 (actSt N2 (mkA 5 N2 l lo hi)) 1 ∧ N2.len ≤ (actSt N2 (mkA 5 N2 l lo hi)).len ∧ IsMade 5 (actSt N2 (mkA 5 N2 l lo hi)) bs (k + 1) off l (mkE 5 N2 (mkA 5 N2 l lo hi)) ∧ Fresh M (actSt N2 (mkA 5 N2 l lo hi)) (mkE 5 N2 (mkA 5 N2 l lo hi)) := by
  have h1' := IsMade.ext hE2 hw1 (.inr (.inr rfl)) _ _ _ _ h1
  have r1 := h1'.right hw2 (.inr (.inr rfl)) (by push_cast at hl; omega)
  have r2 := h2.right hw2 (.inr (.inr rfl)) (by push_cast at hl; omega)
  have hm := makes5 hw2 h0 (by push_cast at hl; omega) hroom r1 r2
  have hx := hm.grown.ext
  refine ⟨hm.err, hm.grown, grown_len, ⟨lo, hi, IsMade.ext hx hw2 (.inr (.inr rfl)) _ _ _ _ h1', IsMade.ext hx hw2 (.inr (.inr rfl)) _ _ _ _ h2, hm.both⟩, fun id hid => ?_⟩
  rcases fresh_make hw2 hm id hid with q | q
  · rcases f2 id q with q2 | q2
    · rcases f1 id q2 with q3 | q3
      · exact .inl q3
      · exact .inr (up_reach hm.both (.inl (reaches_ext (hE2.trans hx) q3)))
    · exact .inr (up_reach hm.both (.inr (reaches_ext hx q2)))
  · exact .inr q

/-- With room enough a table can be made. -/
theorem ideal {bs : List Bool} : ∀ (k off : Nat) (l : Int) (N : St), N.wf → 0 ≤ l → l + (k : Int) = N.n → off + 2 ^ k ≤ bs.length → N.len + ((2 ^ k - 1 : Nat) : Int) ≤ N.room →
    ∃ N' e, GrownBy N N' ((2 ^ k - 1 : Nat) : Int) ∧ N.len ≤ N'.len ∧ IsMade 5 N' bs k off l e ∧ Fresh N N' e ∧ (Packed N → Packed N') := by
  intro k
  induction k with
  | zero =>
    intro off l N hw h0 hl ho _
    obtain ⟨b, hb⟩ : ∃ b, bs[off]? = some b := ⟨_, List.getElem?_eq_getElem (by simp at ho; omega)⟩
    exact ⟨N, _, GrownBy.refl hw (by decide), Int.le_refl _, ⟨b, hb, rfl⟩, fun id hid => .inl hid, fun hp => hp⟩
  | succ k ih =>
    intro off l N hw h0 hl ho hroom
    have hpos : 0 < 2 ^ k := Nat.pow_pos (by decide)
    have e2 : 2 ^ (k + 1) = 2 * 2 ^ k := by rw [Nat.pow_succ]; omega
    rw [e2] at ho hroom
    obtain ⟨N1, lo, g1, z1, m1, f1, k1⟩ := ih off (l + 1) N hw (by omega) (by push_cast at hl; omega) (by omega) (by omega)
    have g1l := g1.len
    have g1r := g1.room
    obtain ⟨N2, hi, g2, z2, m2, f2, k2⟩ := ih (off + 2 ^ k) (l + 1) N1 g1.wf (by omega) (by rw [g1.ext.n]; push_cast at hl; omega) (by omega) (by omega)
    have g2l := g2.len
    have g2r := g2.room
    obtain ⟨_, g3, z3, m3, f3⟩ := ideal_top g1.ext g2.ext g1.wf g2.wf h0 (by rw [g2.ext.n, g1.ext.n]; exact hl) m1 m2 f1 f2 (by omega)
    refine ⟨_, _, ?_, by omega, m3, f3, fun hp => packed_act (k2 (k1 hp)) _⟩
    refine (g1.trans g2 (Int.le_refl _)).trans g3 ?_
    rw [e2]
    omega

/-- What Made tells of a part of a table: the edge, or that the room was not enough. -/
structure FitsOut (M : St) (bs : List Bool) (k off : Nat) (l : Int) (M' : St) (ok : Bool) (e : Edge) : Prop where
  grown : GrownBy M M' ((2 ^ k - 1 : Nat) : Int)
  more : M.len ≤ M'.len
  good : ok = true → IsMade 5 M' bs k off l e ∧ Fresh M M' e
  full : ok = false → M'.len = M'.room ∧ ∃ N e', Ext M N ∧ N.wf ∧ IsMade 5 N bs k off l e' ∧ Fresh M N e' ∧ M.room < N.len ∧ N.room = 4096 ∧ N.len ≤ M.len + ((2 ^ k - 1 : Nat) : Int) ∧ (Packed M → Packed N)
  pack : Packed M → Packed M'

/-- A state with great room. -/
def St.big (M : St) : St := { M with room := 4096 }

theorem St.wf.big {M : St} (h : M.wf) (hl : M.len ≤ 4096) : M.big.wf := ⟨h.n0, h.n16, h.gone, h.nodup, h.good, h.once, h.len0, by show (0 : Int) ≤ 4096; omega, by show (4096 : Int) ≤ 1048576; omega, hl⟩

theorem Ext.big (M : St) : Ext M M.big := ⟨rfl, fun _ _ h => h⟩

theorem isMade_big {M : St} {bs : List Bool} (hw : M.wf) {k off : Nat} {l : Int} {e : Edge} (h : IsMade 5 M bs k off l e) : IsMade 5 M.big bs k off l e := IsMade.ext (Ext.big M) hw (.inr (.inr rfl)) _ _ _ _ h

theorem isMade_small {M : St} {bs : List Bool} (hw : M.big.wf) {k off : Nat} {l : Int} {e : Edge} (h : IsMade 5 M.big bs k off l e) : IsMade 5 M bs k off l e := IsMade.ext (M := M.big) (M' := M) ⟨rfl, fun _ _ h => h⟩ hw (.inr (.inr rfl)) _ _ _ _ h

theorem both_small {M : St} {l : Int} {lo hi e : Edge} (h : Both2 5 M.big l lo hi e) : Both2 5 M l lo hi e := ⟨h.up, h.down, h.right, h.lo, h.hi⟩

/-- Both halves were made: the whole is made, or there is no room. -/
theorem fits_both {M M1 M2 : St} {bs : List Bool} {k off : Nat} {l : Int} {lo hi : Edge} (h0 : 0 ≤ l) (hl : l + ((k + 1 : Nat) : Int) = M.n) (hlen : M.len + ((2 ^ (k + 1) - 1 : Nat) : Int) ≤ 4096)
    (h1 : FitsOut M bs k off (l + 1) M1 true lo) (h2 : FitsOut M1 bs k (off + 2 ^ k) (l + 1) M2 true hi) :
    FitsOut M bs (k + 1) off l (actSt M2 (tAct M2 l lo hi)) (decide (actErr M2 (tAct M2 l lo hi) = 0)) (mkE 5 M2 (tAct M2 l lo hi)) ∧ (actErr M2 (tAct M2 l lo hi) = 0 ∨ actErr M2 (tAct M2 l lo hi) = 6) := by
  obtain ⟨m1, f1⟩ := h1.good rfl
  obtain ⟨m2, f2⟩ := h2.good rfl
  have hw1 := h1.grown.wf
  have hw2 := h2.grown.wf
  have g1 := h1.grown.len
  have g2 := h2.grown.len
  have z1 := h1.more
  have z2 := h2.more
  have hpos : 0 < 2 ^ k := Nat.pow_pos (by decide)
  have e2 : 2 ^ (k + 1) = 2 * 2 ^ k := by rw [Nat.pow_succ]; omega
  rw [e2] at hlen
  have hn2 : M2.n = M.n := h2.grown.ext.n.trans h1.grown.ext.n
  have hr2 : M2.room = M.room := h2.grown.room.trans h1.grown.room
  have hg2 : GrownBy M M2 ((2 ^ k - 1 : Nat) + (2 ^ k - 1 : Nat) : Int) := h1.grown.trans h2.grown (Int.le_refl _)
  by_cases hroom : M2.len < M2.room
  · obtain ⟨i1, i2, i3, i4, i5⟩ := ideal_top h1.grown.ext h2.grown.ext hw1 hw2 h0 (by rw [hn2]; exact hl) m1 m2 f1 f2 hroom
    rw [mk5] at i1 i2 i3 i4 i5
    refine ⟨⟨?_, by omega, fun _ => ⟨i4, i5⟩, (fun hh => by rw [i1] at hh; cases hh), fun hp => packed_act (h2.pack (h1.pack hp)) _⟩, .inl i1⟩
    refine hg2.trans i2 ?_
    rw [e2]
    omega
  · have hfull : M2.len = M2.room := by have := hw2.full; omega
    have hbw : M2.big.wf := hw2.big (by omega)
    obtain ⟨i1, i2, i3, i4, i5⟩ := ideal_top (N2 := M2.big) h1.grown.ext (h2.grown.ext.trans (Ext.big M2)) hw1 hbw h0 (by show _ = M2.n; rw [hn2]; exact hl) m1 (isMade_big hw2 m2) f1 f2 (by show M2.len < 4096; omega)
    have hact : mkA 5 M2.big l lo hi = tAct M2 l lo hi := rfl
    rw [hact] at i1 i2 i3 i4 i5
    have hst : actSt M2 (tAct M2 l lo hi) = M2 := by
      cases tAct M2 l lo hi with
      | inl x => rfl
      | inr r =>
        show M2.findSt r = M2
        unfold St.findSt
        cases M2.idOf r with
        | some i => rfl
        | none => dsimp only; split; rfl; rw [if_pos (by omega)]
    rw [hst]
    have hgr : GrownBy M M2 ((2 ^ (k + 1) - 1 : Nat) : Int) := by
      refine ⟨hg2.ext, hg2.wf, ?_, hg2.room⟩
      have := hg2.len
      rw [e2]
      omega
    cases ha : tAct M2 l lo hi with
    | inl x =>
      rw [ha] at i1 i4 i5
      have i1 : x.2 = 0 := i1
      have he : actErr M2 (.inl x) = 0 := i1
      refine ⟨⟨hgr, by omega, fun _ => ⟨isMade_small hbw i4, i5⟩, (fun hh => by rw [he] at hh; cases hh), fun hp => h2.pack (h1.pack hp)⟩, .inl he⟩
    | inr r =>
      rw [ha] at i1 i2 i3 i4 i5
      cases hid : M2.idOf r with
      | some i =>
        have he : actErr M2 (.inr r) = 0 := by show M2.findErr r = 0; unfold St.findErr; rw [hid]
        have hb : actSt M2.big (.inr r) = M2.big := by show M2.big.findSt r = M2.big; unfold St.findSt; rw [show M2.big.idOf r = some i from hid]
        have hme : mkE 5 M2.big (.inr r) = mkE 5 M2 (.inr r) := by
          show foundE M2.big r.top r = foundE M2 r.top r
          rw [foundE_ok (i1 : M2.big.findErr r = 0), foundE_ok (he : M2.findErr r = 0)]
          congr 1
          unfold St.findId
          rw [show M2.big.idOf r = some i from hid, hid]
        rw [hb, hme] at i4 i5
        refine ⟨⟨hgr, by omega, fun _ => ⟨isMade_small hbw i4, i5⟩, (fun hh => by rw [he] at hh; cases hh), fun hp => h2.pack (h1.pack hp)⟩, .inl he⟩
      | none =>
        have hbad : M2.bad r = false := by
          cases hb : M2.bad r with
          | false => rfl
          | true =>
            have i1 : M2.big.findErr r = 0 := i1
            unfold St.findErr at i1
            rw [show M2.big.idOf r = none from hid] at i1
            dsimp only at i1
            rw [if_pos (show M2.big.bad r = true from hb)] at i1
            cases i1
        have he : actErr M2 (.inr r) = 6 := by
          show M2.findErr r = 6
          unfold St.findErr
          rw [hid]
          dsimp only
          rw [if_neg (by rw [hbad]; decide), if_pos (by omega)]
        have hb : actSt M2.big (.inr r) = M2.big.add r := by
          show M2.big.findSt r = _
          unfold St.findSt
          rw [show M2.big.idOf r = none from hid]
          dsimp only
          rw [if_neg (by rw [show M2.big.bad r = false from hbad]; decide), if_neg (by show ¬ (4096 : Int) ≤ M2.len; omega)]
          rfl
        rw [hb] at i2 i3 i4 i5
        have hla : (M2.big.add r).len = M2.len + 1 := M2.big.len_add r
        refine ⟨⟨hgr, by omega, (fun hh => by rw [he] at hh; cases hh), fun _ => ⟨hfull, M2.big.add r, _, (hg2.ext.trans (Ext.big M2)).trans i2.ext, i2.wf, i4, i5, by rw [hla]; omega, i2.room, ?_, fun hp => ?_⟩, fun hp => h2.pack (h1.pack hp)⟩, .inr he⟩
        · rw [hla, e2]
          omega
        · rw [← hb]
          exact packed_act (M := M2.big) (h2.pack (h1.pack hp)) _

/-- A half could not be made: the whole can't. -/
theorem fits_fail {M M1 M2 : St} {bs : List Bool} {k off : Nat} {l : Int} {a b : Bool} {lo hi e : Edge} (h0 : 0 ≤ l) (hl : l + ((k + 1 : Nat) : Int) = M.n) (hlen : M.len + ((2 ^ (k + 1) - 1 : Nat) : Int) ≤ 4096) (ho : off + 2 ^ (k + 1) ≤ bs.length)
    (h1 : FitsOut M bs k off (l + 1) M1 a lo) (h2 : FitsOut M1 bs k (off + 2 ^ k) (l + 1) M2 b hi) (hab : a = false ∨ b = false) : FitsOut M bs (k + 1) off l M2 false e := by
  have g1 := h1.grown.len
  have g2 := h2.grown.len
  have z1 := h1.more
  have z2 := h2.more
  have hw2 := h2.grown.wf
  have hpos : 0 < 2 ^ k := Nat.pow_pos (by decide)
  have e2 : 2 ^ (k + 1) = 2 * 2 ^ k := by rw [Nat.pow_succ]; omega
  rw [e2] at hlen ho
  have hr1 := h1.grown.room
  have hr2 := h2.grown.room
  have hg2 : GrownBy M M2 ((2 ^ k - 1 : Nat) + (2 ^ k - 1 : Nat) : Int) := h1.grown.trans h2.grown (Int.le_refl _)
  have hgr : GrownBy M M2 ((2 ^ (k + 1) - 1 : Nat) : Int) := by
    refine ⟨hg2.ext, hg2.wf, ?_, hg2.room⟩
    have := hg2.len
    rw [e2]
    omega
  have hf1 := h1.grown.wf.full
  have hf2 := hw2.full
  cases a with
  | false =>
    obtain ⟨q1, N1, e1, q2, q3, q4, q5, q6, q7, q8, q9⟩ := h1.full rfl
    have hn1 : N1.n = M.n := q2.n
    obtain ⟨N2, hi', p1, p2, p3, p4, p5⟩ := ideal (bs := bs) k (off + 2 ^ k) (l + 1) N1 q3 (by omega) (by rw [hn1]; push_cast at hl; omega) (by omega) (by omega)
    have p1l := p1.len
    have p1r := p1.room
    obtain ⟨_, i2, i3, i4, i5⟩ := ideal_top q2 p1.ext q3 p1.wf h0 (by rw [p1.ext.n, hn1]; exact hl) q4 p3 q5 p4 (by omega)
    refine ⟨hgr, by omega, (fun hh => by cases hh), fun _ => ⟨by omega, _, _, (q2.trans p1.ext).trans i2.ext, i2.wf, i4, i5, by omega, by rw [i2.room]; omega, ?_, fun hp => packed_act (p5 (q9 hp)) _⟩, fun hp => h2.pack (h1.pack hp)⟩
    have := i2.len
    rw [e2]
    omega
  | true =>
    obtain rfl : b = false := by rcases hab with hab | hab; cases hab; exact hab
    obtain ⟨m1, f1⟩ := h1.good rfl
    obtain ⟨q1, N2, e1, q2, q3, q4, q5, q6, q7, q8, q9⟩ := h2.full rfl
    have hn2 : N2.n = M.n := q2.n.trans h1.grown.ext.n
    obtain ⟨_, i2, i3, i4, i5⟩ := ideal_top h1.grown.ext q2 h1.grown.wf q3 h0 (by rw [hn2]; exact hl) m1 q4 f1 q5 (by omega)
    refine ⟨hgr, by omega, (fun hh => by cases hh), fun _ => ⟨by omega, _, _, (h1.grown.ext.trans q2).trans i2.ext, i2.wf, i4, i5, by omega, by rw [i2.room]; omega, ?_, fun hp => packed_act (q9 (h1.pack hp)) _⟩, fun hp => h2.pack (h1.pack hp)⟩
    have := i2.len
    rw [e2]
    omega

theorem fits_zero {M : St} {bs : List Bool} {off : Nat} {l : Int} {b : Bool} (h : M.wf) (hb : bs[off]? = some b) : FitsOut M bs 0 off l M true (endE 5 b l) :=
  ⟨GrownBy.refl h (by decide), Int.le_refl _, fun _ => ⟨⟨b, hb, rfl⟩, fun _ hid => .inl hid⟩, (fun hh => by cases hh), fun hp => hp⟩

end Go.Proofs.Ytiacdpoldgfpbaa
