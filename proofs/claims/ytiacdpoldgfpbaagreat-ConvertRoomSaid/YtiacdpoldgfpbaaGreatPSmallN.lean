/-
  law19.Is and law19.Stays.
-/
import Derived.Test.YtiacdpoldgfpbaaGreatPHMadeK
import Derived.Test.YtiacdpoldgfpbaaGreatPHoldsX
import Derived.Test.YtiacdpoldgfpbaaGreatPKB
import Derived.Test.YtiacdpoldgfpbaaGreatPKUnf
import Derived.Test.YtiacdpoldgfpbaaGreatPPartsA
namespace Go.Proofs.YtiacdpoldgfpbaaGreat
set_option linter.unusedSimpArgs false
set_option linter.unusedVariables false
set_option maxHeartbeats 600000
open Go.RowKit

theorem kRight_of {M : St} {f : Int} {e : Edge} {l : Int} (hf : 1 ≤ f ∧ f ≤ 5) (hl : M.leads f e l = true) (hr : rightK M f e l) : kRight M f e l = true := by
  have hff : f = 1 ∨ f = 2 ∨ f = 3 ∨ f = 4 ∨ f = 5 := by omega
  rcases hff with rfl | rfl | rfl | rfl | rfl
  · exact hl
  · exact hl
  · exact hr (.inl rfl)
  · exact hr (.inr (.inl rfl))
  · exact hr (.inr (.inr rfl))

theorem is19_calls {F : Nat → Prop} {w : World} {sb B k : Nat} {M : St} {ts : List Bool} {x : Edge} (h : StoreRep F w sb M) (f : Int) (hf : 1 ≤ f ∧ f ≤ 5) (hx : x.ok) (hk : k ≤ 6) (hn : (0 : Int) + (k : Nat) = M.n) (hm : IsT f M k ts 0 x) (hr : rightK M f x 0) (hB : TabAt w B 0 ts) :
    Calls Tryz.prog 23 #[.pointer (some ⟨sb, 0, none⟩), .int .u8 f, .agg #[.int .u8 x.tag, .int .u32 x.to], .slice (some ⟨B, 0, none⟩) (2 ^ k) (2 ^ k)] w fun r w' => r = .returned (.bool true) ∧ Keeps w w' := by
  have hld := hm.leads h.wf hf hn
  have h6 : 2 ^ k ≤ 2 ^ 6 := Nat.pow_le_pow_right (by decide) hk
  have e6 : (2 : Nat) ^ 6 = 64 := rfl
  have hlen := hm.length
  have hrg := fun (W : World) (hW : Keeps w W) => canon_right (h.keeps hW) f x 0 hx
  rw [kRight_of hf hld hr] at hrg
  have hvs := fun (W : World) (hW : Keeps w W) => store_vars (h.keeps hW)
  have tw := twoK h.wf hf hm hn (Int.le_refl _) k (Nat.le_refl _)
  have hun := fun (W : World) (hW : Keeps w W) => unfK_calls (h.keeps hW) (by omega) f hf (k + 1) (by omega) x hx (lead_tag hld (by omega))
  rw [show ((k + 1 : Nat) : Int) - 1 = M.n by omega] at hun
  have htm := fun (W : World) (hW : Keeps w W) => termK_calls f hf k (by omega) 0 (2 ^ k) ts 0 W (hB.keeps hW) hlen (Nat.le_refl _) (by omega) (by omega) (by omega)
  rw [← tw] at htm
  obtain ⟨s, hs⟩ : ∃ s, s = unfS f M (k + 1) x := ⟨_, rfl⟩
  rw [← hs] at hun htm
  obtain ⟨n, hnn⟩ : ∃ n, n = M.n := ⟨_, rfl⟩
  rw [← hnn] at hun hvs
  obtain ⟨p, hp⟩ : ∃ p, p = 2 ^ k := ⟨_, rfl⟩
  rw [← hp] at htm ⊢
  have k0 : (w.alloc (.cells #[.int .u8 x.tag, .int .u32 x.to] 31)).cell? ⟨w.heap.size, 0, none⟩ = some (.int .u8 x.tag) := by simp [go_sem]
  have k1 : (w.alloc (.cells #[.int .u8 x.tag, .int .u32 x.to] 31)).cell? ⟨w.heap.size, 1, none⟩ = some (.int .u32 x.to) := by simp [go_sem]
  have kk : Keeps w (w.alloc (.cells #[.int .u8 x.tag, .int .u32 x.to] 31)) := (Keeps.refl _).alloc _
  obtain ⟨W1, hW1⟩ : ∃ W1, W1 = w.alloc (.cells #[.int .u8 x.tag, .int .u32 x.to] 31) := ⟨_, rfl⟩
  rw [← hW1] at k0 k1 kk
  have HRg := Lib.hid (fun (W : World) (hW : Keeps W1 W) => hrg W (kk.trans hW))
  have HVs := Lib.hid (fun (W : World) (hW : Keeps W1 W) => hvs W (kk.trans hW))
  have HUn := Lib.hid (fun (W : World) (hW : Keeps W1 W) => hun W (kk.trans hW))
  have HTm := Lib.hid (fun (W : World) (hW : Keeps W1 W) => htm W (kk.trans hW))
  have HW1 := Lib.hid hW1
  clear h hm hr hB hld hrg hvs hun htm tw hs hnn hp hlen h6 e6 hn
  go_enter Tryz.func23, Tryz.ntmps23
  go_wp2_with fail
  rw [← HW1.out]
  have k0k := KWorld.cell k0
  have k1k := KWorld.cell k1
  refine wp_region_keeps (W1) (by kernel_rfl) (by kernel_rfl) (by (exact kp)) ?_; (repeat (go_big_quiet_step ((first | (go_at_call 41; with_reducible refine Calls.sameK (HVs.out _ (KWorld.keep _))) | (go_at_call 15; with_reducible refine Calls.keepsK (HRg.out _ (KWorld.keep _))) | (go_at_call 16; with_reducible refine Calls.keepsK (HUn.out _ (KWorld.keep _))) | (go_at_call 17; with_reducible refine Calls.keepsK (HTm.out _ (KWorld.keep _))))))); refine wpQuiet_nil ?_; rintro wq ⟨⟨_, hkq⟩, rfl⟩; try dsimp only
  go_wp2_with fail
  go_ret
  exact ⟨rfl, kk.trans hkq⟩

end Go.Proofs.YtiacdpoldgfpbaaGreat

namespace Go.Proofs.YtiacdpoldgfpbaaGreat
set_option linter.unusedSimpArgs false
set_option linter.unusedVariables false
set_option maxHeartbeats 600000

inductive SubT : Nat → List Bool → Int → Nat → List Bool → Int → Prop
  | here (k : Nat) (ts : List Bool) (l : Int) : SubT k ts l k ts l
  | lo {k : Nat} {ts : List Bool} {l : Int} {k' : Nat} {s : List Bool} {j : Int} : SubT k (ts.take (2 ^ k)) (l + 1) k' s j → SubT (k + 1) ts l k' s j
  | hi {k : Nat} {ts : List Bool} {l : Int} {k' : Nat} {s : List Bool} {j : Int} : SubT k (ts.drop (2 ^ k)) (l + 1) k' s j → SubT (k + 1) ts l k' s j

theorem SubT.level {k k' : Nat} {ts s : List Bool} {l j : Int} (h : SubT k ts l k' s j) : l + (k : Int) = j + (k' : Int) ∧ l ≤ j := by
  induction h with
  | here => exact ⟨rfl, by omega⟩
  | lo _ ih => push_cast; omega
  | hi _ ih => push_cast; omega

def IsPart (f : Int) (M : St) (k : Nat) (ts : List Bool) (l : Int) (id : Int) : Prop :=
  ∃ k' s j e r, SubT k ts l (k' + 1) s j ∧ IsT f M (k' + 1) s j e ∧ e.to = id ∧ look M.cs id = some r ∧ r.top = j

theorem IsPart.lo {f : Int} {M : St} {k : Nat} {ts : List Bool} {l : Int} {id : Int} (h : IsPart f M k (ts.take (2 ^ k)) (l + 1) id) : IsPart f M (k + 1) ts l id := by
  obtain ⟨k', s, j, e, r, h1, h2⟩ := h
  exact ⟨k', s, j, e, r, .lo h1, h2⟩

theorem IsPart.hi {f : Int} {M : St} {k : Nat} {ts : List Bool} {l : Int} {id : Int} (h : IsPart f M k (ts.drop (2 ^ k)) (l + 1) id) : IsPart f M (k + 1) ts l id := by
  obtain ⟨k', s, j, e, r, h1, h2⟩ := h
  exact ⟨k', s, j, e, r, .hi h1, h2⟩

theorem SubT.trans {k k' k2 : Nat} {ts s s2 : List Bool} {l j j2 : Int} (h : SubT k ts l k' s j) (h2 : SubT k' s j k2 s2 j2) : SubT k ts l k2 s2 j2 := by
  induction h with
  | here => exact h2
  | lo _ ih => exact .lo (ih h2)
  | hi _ ih => exact .hi (ih h2)

theorem IsPart.up {f : Int} {M : St} {k k' : Nat} {ts s : List Bool} {l j id : Int} (h : SubT k ts l k' s j) (hp : IsPart f M k' s j id) : IsPart f M k ts l id := by
  obtain ⟨k2, s2, j2, e, r, h1, h2⟩ := hp
  exact ⟨k2, s2, j2, e, r, h.trans h1, h2⟩

theorem tag_none {f : Int} {M : St} {e : Edge} {l : Int} (hf : f ≠ 5) (h : M.leads f e l = true) : e.tag = 0 := by
  have h1 := (leads_cases h).1
  unfold plainB at h1
  split at h1
  · cases h1
  · rw [if_pos (by simp [hf])] at h1
    simpa using h1

def Twin (f g : Int) (M : St) (k : Nat) (ts : List Bool) (l : Int) (x y : Int) : Prop :=
  ∃ k' s j ef eg q, SubT k ts l (k' + 1) s j ∧ IsT f M (k' + 1) s j ef ∧ ef.to = x ∧ IsT g M (k' + 1) s j eg ∧ eg.to = y ∧ look M.cs y = some q ∧ q.top = j

theorem Twin.inj {f g : Int} {M : St} (hw : M.wf) (hg : g = 1 ∨ g = 2) {k : Nat} {ts : List Bool} {l : Int} (hn : l + (k : Int) = M.n) {x x' y : Int} (h : Twin f g M k ts l x y) (h' : Twin f g M k ts l x' y) : x = x' := by
  obtain ⟨k1, s1, j1, e1, d1, q1, a1, a2, a3, a4, a5, a6, a7⟩ := h
  obtain ⟨k2, s2, j2, e2, d2, q2, b1, b2, b3, b4, b5, b6, b7⟩ := h'
  have hg5 : 1 ≤ g ∧ g ≤ 5 := by omega
  rw [a6] at b6
  cases b6
  have l1 := a1.level
  have l2 := b1.level
  have ej : j1 = j2 := by omega
  subst ej
  have ek : k1 = k2 := by push_cast at l1 l2; omega
  subst ek
  have t1 := tag_none (f := g) (by omega) (a4.leads hw hg5 (by omega))
  have t2 := tag_none (f := g) (by omega) (b4.leads hw hg5 (by omega))
  have ed : d1 = d2 := by
    cases d1
    cases d2
    simp only at a5 b5 t1 t2
    rw [a5, b5, t1, t2]
  subst ed
  have es := IsT.inj hw _ _ _ _ _ a4 b4
  subst es
  have ee := IsT.det hw _ _ _ _ _ a2 b2
  subst ee
  rw [← a3, ← b3]

end Go.Proofs.YtiacdpoldgfpbaaGreat

namespace Go.Proofs.YtiacdpoldgfpbaaGreat
set_option linter.unusedSimpArgs false
set_option linter.unusedVariables false
set_option maxHeartbeats 600000

def TwinZ (M : St) (x y : Int) : Prop :=
  ∃ (k' : Nat) (s : List Bool) (j : Int) (eg : Edge) (q : Rec), j + ((k' + 1 : Nat) : Int) = M.n ∧ IsT 2 M (k' + 1) s j eg ∧ eg.to = y ∧ look M.cs y = some q ∧ q.top = j ∧
    ((s.take (2 ^ k') ≠ s.drop (2 ^ k') ∧ ∃ ef, IsT 5 M (k' + 1) s j ef ∧ ef.to = x) ∨
     (s.take (2 ^ k') = s.drop (2 ^ k') ∧ ∃ s0 e0, IsT 5 M (k' + 1 + 1) s0 (j - 1) e0 ∧ e0.to = x ∧ s0.take (2 ^ (k' + 1)) = s ∧ noneL (s0.drop (2 ^ (k' + 1))) = true))

theorem TwinZ.inj {M : St} (hw : M.wf) {x x' y : Int} (h : TwinZ M x y) (h' : TwinZ M x' y) : x = x' := by
  obtain ⟨k1, s1, j1, d1, q1, a1, a4, a5, a6, a7, a8⟩ := h
  obtain ⟨k2, s2, j2, d2, q2, b1, b4, b5, b6, b7, b8⟩ := h'
  rw [a6] at b6
  cases b6
  have ej : j1 = j2 := by omega
  subst ej
  have ek : k1 = k2 := by push_cast at a1 b1; omega
  subst ek
  have t1 := tag_none (f := 2) (by omega) (a4.leads hw (by omega) a1)
  have t2 := tag_none (f := 2) (by omega) (b4.leads hw (by omega) a1)
  have ed : d1 = d2 := by
    cases d1
    cases d2
    simp only at a5 b5 t1 t2
    rw [a5, b5, t1, t2]
  subst ed
  have es := IsT.inj hw _ _ _ _ _ a4 b4
  subst es
  rcases a8 with ⟨n1, e1, p1, p2⟩ | ⟨n1, s0, e0, p1, p2, p3, p4⟩
  · rcases b8 with ⟨n2, e2, r1, r2⟩ | ⟨n2, _⟩
    · have ee := IsT.det hw _ _ _ _ _ p1 r1
      subst ee
      rw [← p2, ← r2]
    · exact absurd n2 n1
  · rcases b8 with ⟨n2, _⟩ | ⟨n2, s0', e0', r1, r2, r3, r4⟩
    · exact absurd n1 n2
    · have hl1 := p1.length
      have hl2 := r1.length
      have hd : s0.drop (2 ^ (k1 + 1)) = s0'.drop (2 ^ (k1 + 1)) := noneL_len (by rw [List.length_drop, List.length_drop, hl1, hl2]) p4 r4
      have hs : s0 = s0' := by
        rw [← List.take_append_drop (2 ^ (k1 + 1)) s0, ← List.take_append_drop (2 ^ (k1 + 1)) s0', p3, r3, hd]
      subst hs
      have ee := IsT.det hw _ _ _ _ _ p1 r1
      subst ee
      rw [← p2, ← r2]

end Go.Proofs.YtiacdpoldgfpbaaGreat

namespace Go.Proofs.YtiacdpoldgfpbaaGreat
set_option linter.unusedSimpArgs false
set_option linter.unusedVariables false
set_option maxHeartbeats 600000
open Go.RowKit

theorem StoreRep.fine {F : Nat → Prop} {w : World} {sb : Nat} {M : St} (h : StoreRep F w sb M) (f : Int) (h9 : M.n ≤ 9) : Fine f M := ⟨h.wf, fun _ _ hl => ⟨(h.fit hl).lo.2.1, (h.fit hl).hi.2.1⟩, h9⟩

end Go.Proofs.YtiacdpoldgfpbaaGreat

namespace Go.Proofs.YtiacdpoldgfpbaaGreat
set_option linter.unusedSimpArgs false
set_option linter.unusedVariables false
set_option maxHeartbeats 600000
open Go.RowKit

def termN (f : Int) (k : Nat) (bs : List Bool) : Nat := (partsTo (termK f k bs 0) (termK f k bs 0).size).length

theorem termK_size {f : Int} (hf : 1 ≤ f ∧ f ≤ 5) {k : Nat} (hk : k ≤ 6) (bs : List Bool) (l : Int) : (termK f k bs l).size ≤ 1048576 := by
  have q2 : 2 ^ (k + 1) ≤ 2 ^ 7 := Nat.pow_le_pow_right (by decide) (by omega)
  have q3 : 2 ^ k ≤ 2 ^ 6 := Nat.pow_le_pow_right (by decide) (by omega)
  have q4 : (2 : Nat) ^ 7 = 128 := rfl
  have q5 : (2 : Nat) ^ 6 = 64 := rfl
  have h1 := termB_size k bs l
  have h2 := termZ_size k bs l
  have h3 := termC_size (k + 1) k bs l
  have h4 := termQ_size (k + 1) k bs l
  have h5 := termT_size (k + 1) k bs l
  rcases form_cases hf with rfl | rfl | rfl | rfl | rfl
  · show (termB k bs l).size ≤ _; omega
  · show (termZ k bs l).size ≤ _; omega
  · show (termC (k + 1) k bs l).size ≤ _; omega
  · show (termQ (k + 1) k bs l).size ≤ _; omega
  · show (termT (k + 1) k bs l).size ≤ _; omega

set_option maxRecDepth 100000 in
theorem rsize17_calls {B : Nat} (f : Int) (hf : 1 ≤ f ∧ f ≤ 5) (k : Nat) (hk : k ≤ 6) (cap : Nat) (bs : List Bool) (w : World) (h : TabAt w B 0 bs) (hl : bs.length = 2 ^ k) (hc : 2 ^ k ≤ cap) (hc2 : cap ≤ 4096) :
    Calls Tryz.prog 25 #[.int .u8 f, .slice (some ⟨B, 0, none⟩) (2 ^ k) cap] w fun e w' => e = .returned (.int .i64 (termN f k bs)) ∧ Keeps w w' := by
  have hs := termK_size hf hk bs 0
  have hT := fun (W : World) (hW : Keeps w W) => termK_calls f hf k (by omega) 0 cap bs 0 W (h.keeps hW) hl hc hc2 (by omega) (by omega)
  obtain ⟨c, hcc⟩ : ∃ c, c = termN f k bs := ⟨_, rfl⟩
  have hP := fun (W : World) => parts_calls (termK f k bs 0) W hs
  unfold termN at hcc
  rw [show (termN f k bs : Nat) = c by rw [hcc]; rfl]
  rw [← hcc] at hP
  obtain ⟨s, hss⟩ : ∃ s, s = termK f k bs 0 := ⟨_, rfl⟩
  rw [← hss] at hT hP
  have HT := Lib.hid hT
  have HP := Lib.hid hP
  clear hT hP hs hcc hss h hl hc hc2 hf hk
  go_enter Tryz.func25, Tryz.ntmps25
  go_wp2_with (first | (go_at_call 17; refine (HT.out _ (by (exact kp))).mono ?_; rintro e w1 ⟨rfl, hk1⟩) | (go_at_call 65; refine (HP.out _).mono ?_; rintro e w2 ⟨pa, pcap, rfl, hk2⟩) | fail)
  go_ret
  exact ⟨rfl, by (exact kp)⟩

theorem made_count {f : Int} {F : Nat → Prop} {w : World} {sb k : Nat} {M : St} {bs : List Bool} {x : Edge} (r : StoreRep F w sb M) (hf : 1 ≤ f ∧ f ≤ 5) (hk : k ≤ 6) (hn : (0 : Int) + (k : Nat) = M.n) (hl : bs.length = 2 ^ k) (hm : MadeAt f M bs k 0 0 x) (hx : x.ok) :
    IsT f M k bs 0 x ∧ (reachL M.cs [x.to]).length = termN f k bs ∧ mayC M f x 0 = 0 := by
  have m := hm.1
  rw [List.drop_zero, List.take_of_length_le (by omega)] at m
  have hld := m.leads r.wf hf hn
  have hat : At f M x 0 (k + 1) := ⟨hld, hx.2.1, by push_cast; omega⟩
  refine ⟨m, ?_, ?_⟩
  · rw [← parts_count (r.fine f (by omega)) (k + 1) x 0 hat, twoK r.wf hf m hn (Int.le_refl _) k (Nat.le_refl _)]
    rfl
  · unfold mayC
    have hb : isFormB f = true := by rcases form_cases hf with rfl | rfl | rfl | rfl | rfl <;> rfl
    rw [if_neg (by rw [hb]; simp), if_neg (by omega), if_neg (by rw [hld]; simp)]

end Go.Proofs.YtiacdpoldgfpbaaGreat

namespace Go.Proofs.YtiacdpoldgfpbaaGreat
set_option linter.unusedSimpArgs false
set_option linter.unusedVariables false
set_option maxHeartbeats 600000
open Go.RowKit

theorem reaches_to {M N : St} (hE : Ext M N) {roots : List Int} {id : Int} (h : Reaches M.cs roots id) : Reaches N.cs roots id := by
  intro S hS hC
  refine h S (fun x hx hl => ?_) (fun x r hx hl => ?_)
  · cases hk : look M.cs x with
    | none => exact absurd hk hl
    | some r => exact hS x hx (by rw [hE.sub _ _ hk]; simp)
  · have hc := hC x r hx (hE.sub _ _ hl)
    refine ⟨fun hh => hc.1 ?_, fun hh => hc.2 ?_⟩
    · cases hk : look M.cs r.lo.to with
      | none => exact absurd hk hh
      | some q => rw [hE.sub _ _ hk]; simp
    · cases hk : look M.cs r.hi.to with
      | none => exact absurd hk hh
      | some q => rw [hE.sub _ _ hk]; simp

theorem reaches_back {M M' : St} (hE : Ext M M') (hw : M.wf) {a x : Int} (ha : a < 2 ∨ look M.cs a ≠ none) (hx : Reaches M'.cs [a] x) : Reaches M.cs [a] x :=
  hx (fun y => Reaches M.cs [a] y) (fun e he hl => by
    rw [List.mem_singleton] at he
    subst he
    rcases ha with ha | ha
    · exact absurd (look_low ha) hl
    · exact Reaches.root (by simp) ha) (fun y r hy hly => by
    cases hl0 : look M.cs y with
    | none => exact absurd hl0 hy.some
    | some r0 =>
      have e1 := hE.sub _ _ hl0
      rw [hly] at e1
      cases e1
      have g := hw.goodRec hl0
      have c := Reaches.closed M.cs [a] y r hy hl0
      refine ⟨fun hc => c.1 ?_, fun hc => c.2 ?_⟩
      · rw [hE.same g.lo] at hc; exact hc
      · rw [hE.same g.hi] at hc; exact hc)

theorem reachL_ext {M M' : St} (hE : Ext M M') (hw : M.wf) {a : Int} (ha : a < 2 ∨ look M.cs a ≠ none) : reachL M'.cs [a] = reachL M.cs [a] := by
  refine rising_eq (reachL_rising _ _) (reachL_rising _ _) (fun x => ?_)
  rw [mem_reachL, mem_reachL]
  exact ⟨reaches_back hE hw ha, reaches_to hE⟩

end Go.Proofs.YtiacdpoldgfpbaaGreat
