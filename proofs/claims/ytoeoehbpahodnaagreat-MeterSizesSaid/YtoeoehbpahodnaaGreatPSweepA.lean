/-
  Sweep, plainly: what goes, and the state behind it.
-/
import Derived.Test.YtoeoehbpahodnaaGreatPReachA
namespace Go.Proofs.YtoeoehbpahodnaaGreat
set_option linter.unusedSimpArgs false
set_option linter.unusedVariables false
set_option maxHeartbeats 600000

def dropCs (cs : List (Option Rec)) (l : List Int) : List (Option Rec) := l.foldl (fun c id => c.set (id - 2).toNat none) cs

end Go.Proofs.YtoeoehbpahodnaaGreat

namespace Go.Proofs.YtoeoehbpahodnaaGreat
set_option linter.unusedSimpArgs false
set_option linter.unusedVariables false
set_option maxHeartbeats 600000

theorem mod_inj {a x y n : Nat} (hx : x < n) (hy : y < n) (h : (a + x) % n = (a + y) % n) : x = y := by
  have key : ∀ x y, x < n → y < n → x ≤ y → (a + x) % n = (a + y) % n → x = y := by
    intro x y hx hy hle h
    have h1 : (a + y) % n = ((a + x) % n + (y - x)) % n := by rw [Nat.mod_add_mod, show a + x + (y - x) = a + y by omega]
    have hlt := Nat.mod_lt (a + x) (show n > 0 by omega)
    by_cases hc : (a + x) % n + (y - x) < n
    · rw [Nat.mod_eq_of_lt hc] at h1
      omega
    · have h2 : ((a + x) % n + (y - x)) % n = (a + x) % n + (y - x) - n := by
        rw [show (a + x) % n + (y - x) = (a + x) % n + (y - x) - n + n by omega, Nat.add_mod_right, Nat.mod_eq_of_lt (by omega)]
        omega
      omega
  rcases Nat.le_total x y with hle | hle
  · exact key x y hx hy hle h
  · exact (key y x hy hx hle h.symm).symm

theorem path_idx {H h n d D u v : Nat} (hd : d ≤ D) (hD : D < n) (hu : u < n) (hv : v < n) (h1 : (H + d) % n = (h + u) % n) (h2 : (H + D) % n = (h + v) % n) : u + (D - d) = v ∨ u + (D - d) = v + n := by
  have e : (h + (u + (D - d))) % n = (h + v) % n := by
    rw [← h2, show h + (u + (D - d)) = (h + u) + (D - d) by omega, ← Nat.mod_add_mod, ← h1, Nat.mod_add_mod, show H + d + (D - d) = H + D by omega]
  by_cases hc : u + (D - d) < n
  · exact .inl (mod_inj hc hv e)
  · right
    have e2 : (h + (u + (D - d) - n)) % n = (h + v) % n := by
      rw [← e, show h + (u + (D - d)) = h + (u + (D - d) - n) + n by omega, Nat.add_mod_right]
    have := mod_inj (by omega) hv e2
    omega

theorem at_inj {ts : Tab} {i : Nat} {r r' : Rec} {id id' : Int} (h : Tab.at ts i r id) (h' : Tab.at ts i r' id') : r = r' ∧ id = id' := by
  unfold Tab.at at h h'
  rw [h] at h'
  cases h'
  exact ⟨rfl, rfl⟩

structure Shift (H : Rec → Nat → Nat) (ts : Tab) (h : Nat) (k : Rec) (D s t : Nat) (T : Tab) : Prop where
  len : T.length = ts.length
  st : s < t
  tD : t ≤ D
  Dn : D < ts.length
  hole : T[(h + s) % ts.length]? = some none
  tail : ∀ u, s < u → u < ts.length → T[(h + u) % ts.length]? = ts[(h + u) % ts.length]?
  stop : ts[(h + D) % ts.length]? = some none
  go : ∀ u, 0 < u → u < D → ∃ r id, Tab.at ts ((h + u) % ts.length) r id
  uniq : ∀ i j r id id', Tab.at T i r id → Tab.at T j r id' → i = j
  mem : ∀ r id, Tab.has T r id ↔ Tab.has ts r id ∧ r ≠ k
  reach : ∀ v r id, v < ts.length → Tab.at T ((h + v) % ts.length) r id → ∃ d, d < ts.length ∧ (H r ts.length + d) % ts.length = (h + v) % ts.length ∧
    ∀ e, e < d → (∃ r' id', Tab.at T ((H r ts.length + e) % ts.length) r' id') ∨ ((H r ts.length + e) % ts.length = (h + s) % ts.length ∧ t ≤ v)
  occ : occ T + 1 = occ ts

theorem occ_set_none {ts : Tab} {i : Nat} {r : Rec} {id : Int} (h : Tab.at ts i r id) : occ (ts.set i none) + 1 = occ ts := by
  unfold occ Tab.at at *
  obtain ⟨hi, he⟩ := List.getElem?_eq_some_iff.1 h
  rw [List.countP_set hi, he]
  have : 0 < List.countP (fun x => x.isSome) ts := List.countP_pos_iff.2 ⟨_, List.getElem_mem hi, by rw [he]; rfl⟩
  simp
  omega

theorem Shift.start {H : Rec → Nat → Nat} {ts : Tab} (hok : TabOk H ts) {h : Nat} {k : Rec} {idk : Int} {D : Nat} (hh : h < ts.length) (hk : Tab.at ts h k idk) (h1 : 1 ≤ D) (hD : D < ts.length) (hs : ts[(h + D) % ts.length]? = some none) (hgo : ∀ u, 0 < u → u < D → ∃ r id, Tab.at ts ((h + u) % ts.length) r id) :
    Shift H ts h k D 0 1 (ts.set h none) := by
  have e0 : (h + 0) % ts.length = h := Nat.mod_eq_of_lt (by omega)
  have hat : ∀ i r id, Tab.at (ts.set h none) i r id ↔ i ≠ h ∧ Tab.at ts i r id := by
    intro i r id
    unfold Tab.at
    rw [set_get hh]
    by_cases e : i = h
    · simp [e]
    · simp [e]
  refine ⟨List.length_set, by omega, h1, hD, ?_, fun u h0 hu => ?_, hs, hgo, ?_, ?_, ?_, occ_set_none hk⟩
  · rw [e0, set_get hh, if_pos rfl]
  · rw [set_get hh, if_neg]
    intro e
    have := mod_inj (a := h) hu (show 0 < ts.length by omega) (by rw [e, e0])
    omega
  · intro i j r id id' a b
    exact hok.uniq i j r id id' ((hat _ _ _).1 a).2 ((hat _ _ _).1 b).2
  · intro r id
    constructor
    · rintro ⟨i, hi⟩
      obtain ⟨a, b⟩ := (hat _ _ _).1 hi
      refine ⟨⟨i, b⟩, fun e => a ?_⟩
      subst e
      exact hok.uniq i h r id idk b hk
    · rintro ⟨⟨i, hi⟩, hne⟩
      refine ⟨i, (hat _ _ _).2 ⟨fun e => hne ?_, hi⟩⟩
      subst e
      exact (at_inj hi hk).1
  · intro v r id hv ha
    obtain ⟨a, b⟩ := (hat _ _ _).1 ha
    obtain ⟨d, hd, he, ho⟩ := hok.reach _ r id b
    refine ⟨d, hd, he.symm, fun e hlt => ?_⟩
    obtain ⟨r', id', hx⟩ := ho e hlt
    by_cases hc : (H r ts.length + e) % ts.length = h
    · right
      refine ⟨by rw [hc, e0], ?_⟩
      rcases Nat.eq_zero_or_pos v with hz | hz
      · subst hz; exact absurd e0 a
      · exact hz
    · left
      exact ⟨r', id', (hat _ _ _).2 ⟨hc, hx⟩⟩

theorem Shift.stay {H : Rec → Nat → Nat} {ts : Tab} {h : Nat} {k : Rec} {D s t : Nat} {T : Tab} (hS : Shift H ts h k D s t T) (ht : t < D) {r : Rec} {id : Int} (ha : Tab.at ts ((h + t) % ts.length) r id) {d : Nat} (hd : d < ts.length) (hda : (H r ts.length + d) % ts.length = (h + t) % ts.length) (hlt : d < t - s) :
    Shift H ts h k D s (t + 1) T := by
  have hDn := hS.Dn
  have hst := hS.st
  refine ⟨hS.len, by omega, by omega, hS.Dn, hS.hole, hS.tail, hS.stop, hS.go, hS.uniq, hS.mem, ?_, hS.occ⟩
  intro v q iq hv hq
  obtain ⟨d', hd', hda', hgo'⟩ := hS.reach v q iq hv hq
  refine ⟨d', hd', hda', fun e he => ?_⟩
  rcases hgo' e he with hx | ⟨hx, hle⟩
  · exact .inl hx
  · right
    refine ⟨hx, ?_⟩
    rcases Nat.lt_or_ge t v with hc | hc
    · exact hc
    · exfalso
      have hvt : v = t := by omega
      subst hvt
      have hq2 : Tab.at ts ((h + v) % ts.length) q iq := by
        unfold Tab.at at hq ⊢
        rw [← hS.tail v hst hv]
        exact hq
      obtain ⟨e1, e2⟩ := at_inj hq2 ha
      subst e1
      have hdd : d' = d := mod_inj (a := H q ts.length) hd' hd (by rw [hda', hda])
      subst hdd
      rcases path_idx (Nat.le_of_lt he) hd' (show s < ts.length by omega) hv hx hda' with hp | hp
      · omega
      · omega

end Go.Proofs.YtoeoehbpahodnaaGreat

namespace Go.Proofs.YtoeoehbpahodnaaGreat
set_option linter.unusedSimpArgs false
set_option linter.unusedVariables false
set_option maxHeartbeats 600000
open Go.RowKit

structure DropInv (w wr : World) (ib tb cap : Nat) (ts : Tab) (cnt : Int) (h : Nat) (k : Rec) (D s t : Nat) (T : Tab) : Prop where
  heap : wr.heap[ib]? = some (.cells #[.slice (some ⟨tb, 0, none⟩) ts.length cap, .int .i64 (cnt - 1)] 283 (0, 0))
  row : ∃ q iq, wr.ownsRow 0 286 9 (.slice (some ⟨tb, 0, none⟩) ts.length cap) ts.length ((T.set ((h + s) % ts.length) (some (q, iq))).flatMap slotVals)
  upd : Upd (fun x => x = ib ∨ x = tb) w wr
  sh : Shift homeN ts h k D s t T

theorem DropInv.keeps {w wr W : World} {ib tb cap : Nat} {ts : Tab} {cnt : Int} {h : Nat} {k : Rec} {D s t : Nat} {T : Tab} (hI : DropInv w wr ib tb cap ts cnt h k D s t T) (hk : Keeps wr W) : DropInv w W ib tb cap ts cnt h k D s t T := by
  obtain ⟨h1, ⟨q, iq, h2⟩, h3, h4⟩ := hI
  exact ⟨hk.heap h1, ⟨q, iq, hk.owns h2⟩, h3.trans' (hk.upd _), h4⟩

theorem set_same {T : Tab} {i : Nat} {c : Option (Rec × Int)} (h : T[i]? = some c) : T.set i c = T := by
  obtain ⟨hi, he⟩ := List.getElem?_eq_some_iff.1 h
  rw [← he, List.set_getElem_self]

theorem DropInv.stay {w wr : World} {ib tb cap : Nat} {ts : Tab} {cnt : Int} {h : Nat} {k : Rec} {D s t : Nat} {T : Tab} (hI : DropInv w wr ib tb cap ts cnt h k D s t T) (ht : t < D) {r : Rec} {id : Int} (ha : Tab.at ts ((h + t) % ts.length) r id)
    {d : Nat} (hd : d < ts.length) (hda : (homeN r ts.length + d) % ts.length = (h + t) % ts.length) (hlt : d < t - s) : DropInv w wr ib tb cap ts cnt h k D s (t + 1) T :=
  ⟨hI.heap, hI.row, hI.upd, hI.sh.stay ht ha hd hda hlt⟩

theorem DropInv.start {w wr : World} {ib tb cap : Nat} {ts : Tab} {cnt : Int} {h : Nat} {k : Rec} {idk : Int} {D : Nat} (hh : h < ts.length) (hk : Tab.at ts h k idk) (hS : Shift homeN ts h k D 0 1 (ts.set h none))
    (heap : wr.heap[ib]? = some (.cells #[.slice (some ⟨tb, 0, none⟩) ts.length cap, .int .i64 (cnt - 1)] 283 (0, 0))) (row : wr.ownsRow 0 286 9 (.slice (some ⟨tb, 0, none⟩) ts.length cap) ts.length (ts.flatMap slotVals)) (upd : Upd (fun x => x = ib ∨ x = tb) w wr) :
    DropInv w wr ib tb cap ts cnt h k D 0 1 (ts.set h none) := by
  refine ⟨heap, ⟨k, idk, ?_⟩, upd, hS⟩
  rw [show (h + 0) % ts.length = h from Nat.mod_eq_of_lt hh, List.set_set, set_same hk]
  exact row

end Go.Proofs.YtoeoehbpahodnaaGreat

namespace Go.Proofs.YtoeoehbpahodnaaGreat
set_option linter.unusedSimpArgs false
set_option linter.unusedVariables false
set_option maxHeartbeats 600000
open Go.RowKit

structure SwRep (F : Nat → Prop) (W0 W : World) (sb ab ib : Nat) (M : St) (l : List Int) (ka ki : Nat) : Prop where
  head : W.heap[sb]? = some (.cells #[.int .i64 M.n, .pointer (some ⟨ab, 0, none⟩), .pointer (some ⟨ib, 0, none⟩)] 217 (0, 0))
  rep : ∃ ts Fa Fi, ArenaRep Fa W ab (dropCs M.cs (l.take ka)) (M.gone ++ l.take ka) (M.len - ka) M.room ∧ IndexRep Fi W ib ts (M.len - ki) ∧ M.len - ki = (occ ts : Int) ∧
    (∀ r id, Tab.has ts r id ↔ look (dropCs M.cs (l.take ki)) id = some r) ∧ (∀ k, Fa k → F k ∨ (W0.heap.size ≤ k ∧ k < W.heap.size)) ∧ (∀ k, Fi k → F k) ∧ (∀ k, Fa k → ¬ Fi k) ∧ ¬ Fa sb ∧ ¬ Fi sb
  upd : Upd F W0 W
  own : F sb
  lt : ∀ k, F k → k < W0.heap.size

theorem SwRep.keeps {F : Nat → Prop} {W0 W W' : World} {sb ab ib : Nat} {M : St} {l : List Int} {ka ki : Nat} (h : SwRep F W0 W sb ab ib M l ka ki) (hk : Keeps W W') : SwRep F W0 W' sb ab ib M l ka ki := by
  obtain ⟨h1, ⟨ts, Fa, Fi, q1, q2, q3, q4, q5, q6, q7, q8, q9⟩, h2, h3, h4⟩ := h
  exact ⟨(hk.block sb (lt_of_heap h1)).trans h1, ⟨ts, Fa, Fi, q1.keeps hk, q2.keeps hk, q3, q4, fun k hk' => by
    rcases q5 k hk' with hh | hh
    · exact .inl hh
    · exact .inr ⟨hh.1, Nat.lt_of_lt_of_le hh.2 hk.size⟩, q6, q7, q8, q9⟩, h2.trans' (hk.upd _), h3, h4⟩

end Go.Proofs.YtoeoehbpahodnaaGreat
