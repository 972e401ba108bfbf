/-
  The walk of law17.Made, any form (printed by wip/mk_madek.py).
-/
import Derived.Test.YtoeoehbpahodnaaGreatPMeansA
import Derived.Test.YtoeoehbpahodnaaGreatPOrderN
import Derived.Test.YtoeoehbpahodnaaGreatPSmallA
import Derived.Maps.OwnSet
import Derived.Maps.Keyed
import Derived.DeepKeys4
namespace Go.Proofs.YtoeoehbpahodnaaGreat
set_option linter.unusedSimpArgs false
set_option linter.unusedVariables false
set_option maxHeartbeats 600000
open Go.RowKit

def MadeAt (f : Int) (M : St) (bs : List Bool) (k off : Nat) (l : Int) (e : Edge) : Prop := IsT f M k ((bs.drop off).take (2 ^ k)) l e ∧ rightK M f e l

theorem MadeAt.ext {f : Int} {M M' : St} {bs : List Bool} (hE : Ext M M') (hw : M.wf) (hf : 1 ≤ f ∧ f ≤ 5) {k off : Nat} {l : Int} {e : Edge} (h : MadeAt f M bs k off l e) : MadeAt f M' bs k off l e :=
  ⟨IsT.ext hE hf _ _ _ _ h.1, rightK_ext hE hw h.2⟩

theorem MadeAt.pair {f : Int} {M : St} {bs : List Bool} {k off : Nat} {l : Int} {lo hi e : Edge} (h1 : MadeAt f M bs k off (l + 1) lo) (h2 : MadeAt f M bs k (off + 2 ^ k) (l + 1) hi) (h3 : Pair f M l lo hi e) (hr : rightK M f e l) (hlen : off + 2 ^ (k + 1) ≤ bs.length) : MadeAt f M bs (k + 1) off l e := by
  have e2 : 2 ^ (k + 1) = 2 ^ k + 2 ^ k := by rw [Nat.pow_succ]; omega
  have hp : 0 < 2 ^ k := Nat.pow_pos (by decide)
  refine ⟨⟨by simp only [List.length_take, List.length_drop]; omega, lo, hi, ?_, ?_, h3⟩, hr⟩
  · rw [List.take_take, show min (2 ^ k) (2 ^ (k + 1)) = 2 ^ k by omega]
    exact h1.1
  · rw [List.drop_take, List.drop_drop, show 2 ^ (k + 1) - 2 ^ k = 2 ^ k by omega]
    exact h2.1

theorem kAct_mkK {M : St} {f l : Int} {lo hi : Edge} (hf : 1 ≤ f ∧ f ≤ 5) : kAct M f l lo hi = mkK f M l lo hi := by
  have hff : f = 1 ∨ f = 2 ∨ f = 3 ∨ f = 4 ∨ f = 5 := by omega
  rcases hff with rfl | rfl | rfl | rfl | rfl <;> rfl

theorem mkK_ok {f : Int} {M : St} {l : Int} {lo hi : Edge} (h : M.wf) (hf : M.cs.length ≤ 1048576) (hlo : lo.ok) (hhi : hi.ok) (h0 : 0 ≤ l) (h1 : l ≤ 255) (hff : 1 ≤ f ∧ f ≤ 5) : (mkE f M (mkK f M l lo hi)).ok := by
  have hc : f = 1 ∨ f = 2 ∨ f = 3 ∨ f = 4 ∨ f = 5 := by omega
  rcases hc with rfl | rfl | hc | hc | hc
  · rw [mkK1]
    show (actE0 M _).ok
    unfold makeAct bRest
    repeat' split
    all_goals first | exact edge0_ok | exact hlo | exact foundE_fit h hf 0 (by omega) _
  · rw [mkK2]
    show (actE0 M _).ok
    unfold makeAct zRest
    repeat' split
    all_goals first | exact edge0_ok | exact hlo | exact foundE_fit h hf 0 (by omega) _
  · have e : mkK f M l lo hi = mkA f M l lo hi := by subst hc; rfl
    rw [e]; exact mkE_ok h hf hlo hhi h0 h1 (.inl hc)
  · have e : mkK f M l lo hi = mkA f M l lo hi := by subst hc; rfl
    rw [e]; exact mkE_ok h hf hlo hhi h0 h1 (.inr (.inl hc))
  · have e : mkK f M l lo hi = mkA f M l lo hi := by subst hc; rfl
    rw [e]; exact mkE_ok h hf hlo hhi h0 h1 (.inr (.inr hc))

end Go.Proofs.YtoeoehbpahodnaaGreat

namespace Go.Proofs.YtoeoehbpahodnaaGreat
set_option linter.unusedSimpArgs false
set_option linter.unusedVariables false
set_option maxHeartbeats 600000
open Go.RowKit

noncomputable def placeL (e : Edge) (l : Int) : Lit := .string (keyBytes [.int .u8 e.tag, .int .u32 e.to, .int .i64 l])

def edgeD (x : Edge) : DataW Unit := .agg [.lit (.int .u8 x.tag), .lit (.int .u32 x.to)]

structure MemoOk (f g : Int) (M : St) (V : List (Edge × Int)) (D : DataW Unit) : Prop where
  isMap : Go.Maps.IsMap D
  fit : ∀ p ∈ V, p.1.ok ∧ 0 ≤ p.2 ∧ p.2 ≤ 16 ∧ M.leads f p.1 p.2 = true
  keys : ∀ e l, e.ok → 0 ≤ l → l ≤ 16 → (Go.Maps.has D (placeL e l) = true ↔ (e, l) ∈ V)
  good : ∀ p ∈ V, ∃ x, D.atKey (placeL p.1 p.2) (edgeD ⟨0, 0⟩) = edgeD x ∧ GoodC f g M p.1 p.2 x

theorem MemoOk.empty (f g : Int) (M : St) : MemoOk f g M [] (.map []) := by
  refine ⟨Go.Maps.isMap_empty, fun p h => by simp at h, fun e l _ _ _ => ?_, fun p h => by simp at h⟩
  simp [Go.Maps.has_eq]

theorem MemoOk.ext {f g : Int} {M M' : St} {V : List (Edge × Int)} {D : DataW Unit} (h : MemoOk f g M V D) (hE : Ext M M') (hw : M.wf) (hf : 1 ≤ f ∧ f ≤ 5) (hg : 1 ≤ g ∧ g ≤ 5) : MemoOk f g M' V D :=
  ⟨h.isMap, fun p hp => by obtain ⟨a, b, c, d⟩ := h.fit p hp; exact ⟨a, b, c, hE.leads d⟩, h.keys, fun p hp => by
    obtain ⟨x, a, b⟩ := h.good p hp
    exact ⟨x, a, b.ext hE hw (h.fit p hp).2.2.2 hf hg⟩⟩

theorem MemoOk.none {f g : Int} {M : St} {V : List (Edge × Int)} {D : DataW Unit} (h : MemoOk f g M V D) {e : Edge} {l : Int} (he : e.ok) (h0 : 0 ≤ l) (h1 : l ≤ 16) (hp : (e, l) ∉ V) : Go.Maps.has D (placeL e l) = false ∧ D.atKey (placeL e l) (edgeD ⟨0, 0⟩) = edgeD ⟨0, 0⟩ := by
  have hh : Go.Maps.has D (placeL e l) = false := by
    cases hb : Go.Maps.has D (placeL e l) with
    | false => rfl
    | true => exact absurd ((h.keys e l he h0 h1).1 hb) hp
  exact ⟨hh, Go.Maps.atKey_of_not_has hh _⟩

end Go.Proofs.YtoeoehbpahodnaaGreat

namespace Go.Proofs.YtoeoehbpahodnaaGreat
set_option linter.unusedSimpArgs false
set_option linter.unusedVariables false
set_option maxHeartbeats 600000
open Go.RowKit

theorem ordAt_calls (a : Option Addr) (cap : Nat) (ps : List Int) (w : World) (h : IntsAt w a ps) (hl : ps.length ≤ 16) (i : Nat) (x : Int) (hx : ps[i]? = some x) :
    Calls Tryz.prog 179 #[.slice a ps.length cap, .int .i64 (i : Int)] w fun e w' => e = .returned (.int .i64 x) ∧ w = w' := by
  obtain ⟨b, off, rfl, hc⟩ := h i x hx
  have hi := (List.getElem?_eq_some_iff.1 hx).1
  obtain ⟨N, hN⟩ : ∃ N, N = ps.length := ⟨_, rfl⟩
  rw [← hN] at hl hi ⊢
  clear h hx hN
  go_enter Tryz.func179, Tryz.ntmps179
  go_wp2
  go_ret
  exact ⟨rfl, rfl⟩

theorem ordVar_calls {F : Nat → Prop} {w : World} {ob : Nat} {ps : List Int} (h : OrdRep F w ob ps) (i : Nat) (x : Int) (hx : ps[i]? = some x) :
    Calls Tryz.prog 115 #[.pointer (some ⟨ob, 0, none⟩), .int .i64 (i : Int)] w fun e w' => e = .returned (.int .i64 x) ∧ w = w' := by
  obtain ⟨va, vc, lg, lc, c0, c1, hi⟩ := h.cells
  have HC := Lib.hid (ordAt_calls va vc ps w hi h.le i x hx)
  obtain ⟨n, hn⟩ : ∃ n, n = ps.length := ⟨_, rfl⟩
  rw [← hn] at c0 c1 HC
  clear h c1 hi hn hx
  go_enter Tryz.func115, Tryz.ntmps115
  go_wp2_with (first | (go_at_call 179; refine HC.out.mono ?_; rintro e w1 ⟨rfl, rfl⟩) | fail)
  go_ret
  exact ⟨rfl, rfl⟩

set_option maxRecDepth 100000 in
theorem buildMay_calls {F Fo : Nat → Prop} {w : World} {sb ob : Nat} {M : St} {ps : List Int} (h : StoreRep F w sb M) (ho : OrdRep Fo w ob ps) (hn : M.n = (ps.length : Int)) (f : Int) (hf : isFormB f = true) :
    Calls Tryz.prog 116 #[.pointer (some ⟨sb, 0, none⟩), .pointer (some ⟨ob, 0, none⟩), .int .u8 f] w fun e w' => e = .returned (.int .u8 0) ∧ Keeps w w' := by
  have HV := Lib.hid (fun (W : World) (hW : Keeps w W) => store_vars (h.keeps hW))
  have HO := Lib.hid (fun (W : World) (hW : Keeps w W) => ordVars_calls (ho.keeps hW))
  have hif := isForm_calls f
  rw [hf] at hif
  have HI := Lib.hid hif
  rw [hn] at HV
  have hle := ho.le
  obtain ⟨N, hN⟩ : ∃ N, N = ps.length := ⟨_, rfl⟩
  rw [← hN] at HV HO hle
  clear h ho hn hif hf hN
  go_enter Tryz.func116, Tryz.ntmps116
  go_wp2_with (first | (go_at_call 93; refine (HV.out _ (by (exact kp))).mono ?_; rintro e w1 ⟨rfl, rfl⟩) | (go_at_call 71; refine (HO.out _ (by (exact kp))).mono ?_; rintro e w1 ⟨rfl, rfl⟩) | (go_at_call 79; refine (HI.out _).mono ?_; rintro e w1 ⟨rfl, rfl⟩) | fail)
  go_ret
  exact ⟨rfl, by (exact kp)⟩

end Go.Proofs.YtoeoehbpahodnaaGreat

namespace Go.Proofs.YtoeoehbpahodnaaGreat
set_option linter.unusedSimpArgs false
set_option linter.unusedVariables false
set_option maxHeartbeats 600000
open Go.RowKit

def termN (f : Int) (k : Nat) (bs : List Bool) : Nat := (partsTo (termK f k bs 0) (termK f k bs 0).size).length

theorem made_count {f : Int} {F : Nat → Prop} {w : World} {sb k : Nat} {M : St} {bs : List Bool} {x : Edge} (r : StoreRep F w sb M) (hf : 1 ≤ f ∧ f ≤ 5) (hk : k ≤ 6) (hn : (0 : Int) + (k : Nat) = M.n) (hl : bs.length = 2 ^ k) (hm : MadeAt f M bs k 0 0 x) (hx : x.ok) :
    IsT f M k bs 0 x ∧ (reachL M.cs [x.to]).length = termN f k bs ∧ mayC M f x 0 = 0 := by
  have m := hm.1
  rw [List.drop_zero, List.take_of_length_le (by omega)] at m
  have hld := m.leads r.wf hf hn
  have hat : At f M x 0 (k + 1) := ⟨hld, hx.2.1, by push_cast; omega⟩
  refine ⟨m, ?_, ?_⟩
  · rw [← parts_count (r.fine f (by omega)) (k + 1) x 0 hat, twoK r.wf hf m hn (Int.le_refl _) k (Nat.le_refl _)]
    rfl
  · unfold mayC
    have hb : isFormB f = true := by rcases form_cases hf with rfl | rfl | rfl | rfl | rfl <;> rfl
    rw [if_neg (by rw [hb]; simp), if_neg (by omega), if_neg (by rw [hld]; simp)]

end Go.Proofs.YtoeoehbpahodnaaGreat
