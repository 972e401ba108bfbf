/-
  ramageref17.Table over the state: the table of what an edge means.
-/
import Derived.Test.YtoeoehbpahodnaaGreatPKUnfxB
import Derived.Test.YtoeoehbpahodnaaGreatPPartsAxB
import Derived.Test.YtoeoehbpahodnaaGreatPPermRxB
import Derived.Test.YtoeoehbpahodnaaGreatPSetW
import Derived.Test.YtoeoehbpahodnaaGreatPSmallAxB
import Derived.Test.YtoeoehbpahodnaaGreatPSwapOxB
import Derived.Test.YtoeoehbpahodnaaGreatPSwapS
namespace Go.Proofs.YtoeoehbpahodnaaGreat
set_option linter.unusedSimpArgs false
set_option linter.unusedVariables false
set_option maxHeartbeats 600000
open Go.RowKit

theorem bitB_nat (y k : Nat) : bitB (y : Int) (k : Int) = decide (y / 2 ^ k % 2 = 1) := by
  unfold bitB
  rw [Int.toNat_natCast]
  congr 1
  have : (y : Int) / 2 ^ k % 2 = ((y / 2 ^ k % 2 : Nat) : Int) := by push_cast; rfl
  rw [this]
  exact propext ⟨fun h => by exact_mod_cast h, fun h => by exact_mod_cast h⟩

end Go.Proofs.YtoeoehbpahodnaaGreat

namespace Go.Proofs.YtoeoehbpahodnaaGreat
set_option linter.unusedSimpArgs false
set_option linter.unusedVariables false
set_option maxHeartbeats 600000

theorem vb_le (X : Nat) (v : Int) : vb X v ≤ 1 := by unfold vb; split <;> decide

def dnN (X : Nat) : List Int → Nat
  | [] => 0
  | v :: ps => vb X v * 2 ^ ps.length + dnN X ps

theorem dnN_lt (X : Nat) : ∀ ps : List Int, dnN X ps < 2 ^ ps.length := by
  intro ps
  induction ps with
  | nil => exact Nat.one_pos
  | cons v ps ih =>
    have := vb_le X v
    have e2 : 2 ^ (v :: ps).length = 2 ^ ps.length * 2 := by rw [List.length_cons, Nat.pow_succ]
    show vb X v * 2 ^ ps.length + dnN X ps < _
    rw [e2]
    rcases Nat.le_one_iff_eq_zero_or_eq_one.1 this with h | h
    · rw [h]; omega
    · rw [h]; omega

theorem dnN_snoc (X : Nat) : ∀ (ps : List Int) (v : Int), dnN X (ps ++ [v]) = 2 * dnN X ps + vb X v := by
  intro ps
  induction ps with
  | nil => intro v; show vb X v * 2 ^ 0 + 0 = 2 * 0 + vb X v; omega
  | cons a ps ih =>
    intro v
    show vb X a * 2 ^ (ps ++ [v]).length + dnN X (ps ++ [v]) = 2 * (vb X a * 2 ^ ps.length + dnN X ps) + vb X v
    rw [ih, List.length_append]
    show vb X a * 2 ^ (ps.length + 1) + _ = _
    rw [Nat.pow_succ, ← Nat.mul_assoc]
    omega

theorem bitB_testBit (y j : Nat) : bitB (y : Int) (j : Int) = y.testBit j := by
  rw [bitB_nat, Nat.testBit_eq_decide_div_mod_eq]

end Go.Proofs.YtoeoehbpahodnaaGreat

namespace Go.Proofs.YtoeoehbpahodnaaGreat
set_option linter.unusedSimpArgs false
set_option linter.unusedVariables false
set_option maxHeartbeats 600000

theorem words_max : ∀ n : Nat, n ≤ 16 → (2 ^ n + 63) / 64 = max 1 (2 ^ n / 64) := by decide

def putV (X : Nat) : List Int → Nat → Nat
  | [], x => x
  | v :: vs, x => putV X vs (if bitB (X : Int) v = true then x ||| 2 ^ v.toNat else x)

theorem bldT_dnN (has : Nat → Bool) (X : Nat) : ∀ (vs : List Int) (x : Nat), (bldT has vs x)[dnN X vs]? = some (has (putV X vs x)) := by
  intro vs
  induction vs with
  | nil => intro x; rfl
  | cons v vs ih =>
    intro x
    show (bldT has vs x ++ bldT has vs (x ||| 2 ^ v.toNat))[vb X v * 2 ^ vs.length + dnN X vs]? = some (has (putV X vs _))
    have hlt := dnN_lt X vs
    unfold vb
    by_cases hb : bitB (X : Int) v = true
    · rw [if_pos hb, if_pos hb, List.getElem?_append_right (by rw [bldT_len]; omega), bldT_len, show 1 * 2 ^ vs.length + dnN X vs - 2 ^ vs.length = dnN X vs from by omega]
      exact ih _
    · rw [if_neg hb, if_neg hb, List.getElem?_append_left (by rw [bldT_len]; omega), show 0 * 2 ^ vs.length + dnN X vs = dnN X vs from by omega]
      exact ih _

theorem putV_bit (X : Nat) : ∀ (vs : List Int) (x j : Nat), (∀ v ∈ vs, 0 ≤ v) → (putV X vs x).testBit j = (x.testBit j || (decide ((j : Int) ∈ vs) && X.testBit j)) := by
  intro vs
  induction vs with
  | nil => intro x j _; simp [putV]
  | cons v vs ih =>
    intro x j h
    have h0 := h v (by simp)
    show (putV X vs _).testBit j = _
    rw [ih _ j (fun u hu => h u (by simp [hu]))]
    obtain ⟨V, rfl⟩ : ∃ V : Nat, v = (V : Int) := ⟨v.toNat, by omega⟩
    rw [bitB_testBit, Int.toNat_natCast]
    by_cases hj : j = V
    · subst hj
      cases hX : X.testBit j <;> simp [Nat.testBit_or, Nat.testBit_two_pow]
    · have hne : ¬ V = j := fun e => hj e.symm
      have hne2 : ¬ (j : Int) = (V : Int) := by omega
      cases hX : X.testBit V
      · simp [hne2]
      · simp [hne2, Nat.testBit_or, Nat.testBit_two_pow, hne]

theorem putV_all {X : Nat} {ps : List Int} (hp : permB ps = true) (hX : X < 2 ^ ps.length) : putV X ps 0 = X := by
  obtain ⟨h1, h2, h3⟩ := permB_iff.1 hp
  apply Nat.eq_of_testBit_eq
  intro j
  rw [putV_bit X ps 0 j (fun v hv => (h2 v hv).1)]
  by_cases hj : j < ps.length
  · have : (j : Int) ∈ ps := (permB_perm.1 hp).2.symm.subset (mem_numsI.2 ⟨by omega, by omega⟩)
    simp [this]
  · have : X.testBit j = false := Nat.testBit_lt_two_pow (Nat.lt_of_lt_of_le hX (Nat.pow_le_pow_right (by decide) (by omega)))
    simp [this]

end Go.Proofs.YtoeoehbpahodnaaGreat

namespace Go.Proofs.YtoeoehbpahodnaaGreat
set_option linter.unusedSimpArgs false
set_option linter.unusedVariables false
set_option maxHeartbeats 600000
open Go.RowKit

theorem ktabS {w : World} {B : Nat} {bs : List Bool} (h : BoolsAt w B bs) : TabAt w B 0 bs := fun i b hb => by
  rw [Nat.zero_add]
  exact h.cell hb

theorem termK_size {f : Int} (hf : 1 ≤ f ∧ f ≤ 5) {k : Nat} (hk : k ≤ 6) (bs : List Bool) (l : Int) : (termK f k bs l).size ≤ 1048576 := by
  have q2 : 2 ^ (k + 1) ≤ 2 ^ 7 := Nat.pow_le_pow_right (by decide) (by omega)
  have q3 : 2 ^ k ≤ 2 ^ 6 := Nat.pow_le_pow_right (by decide) (by omega)
  have q4 : (2 : Nat) ^ 7 = 128 := rfl
  have q5 : (2 : Nat) ^ 6 = 64 := rfl
  have h1 := termB_size k bs l
  have h2 := termZ_size k bs l
  have h3 := termC_size (k + 1) k bs l
  have h4 := termQ_size (k + 1) k bs l
  have h5 := termT_size (k + 1) k bs l
  rcases form_cases hf with rfl | rfl | rfl | rfl | rfl
  · show (termB k bs l).size ≤ _; omega
  · show (termZ k bs l).size ≤ _; omega
  · show (termC (k + 1) k bs l).size ≤ _; omega
  · show (termQ (k + 1) k bs l).size ≤ _; omega
  · show (termT (k + 1) k bs l).size ≤ _; omega

end Go.Proofs.YtoeoehbpahodnaaGreat

namespace Go.Proofs.YtoeoehbpahodnaaGreat
set_option linter.unusedSimpArgs false
set_option linter.unusedVariables false
set_option maxHeartbeats 600000

theorem dnN_inj {ps : List Int} (hp : permB ps = true) {X Y : Nat} (hX : X < 2 ^ ps.length) (hY : Y < 2 ^ ps.length) (h : dnN X ps = dnN Y ps) : X = Y := by
  have key : ∀ (vs : List Int), dnN X vs = dnN Y vs → ∀ v ∈ vs, bitB (X : Int) v = bitB (Y : Int) v := by
    intro vs
    induction vs with
    | nil => intro _ v hv; cases hv
    | cons u vs ih =>
      intro hh v hv
      have h1 := dnN_lt X vs
      have h2 := dnN_lt Y vs
      change vb X u * 2 ^ vs.length + dnN X vs = vb Y u * 2 ^ vs.length + dnN Y vs at hh
      have b1 := vb_le X u
      have b2 := vb_le Y u
      have c1 : vb X u = 0 ∨ vb X u = 1 := by omega
      have c2 : vb Y u = 0 ∨ vb Y u = 1 := by omega
      have e : vb X u = vb Y u := by
        rcases c1 with c1 | c1 <;> rcases c2 with c2 | c2 <;> rw [c1, c2] at hh ⊢ <;> omega
      rw [e] at hh
      rcases List.mem_cons.1 hv with rfl | hv
      · unfold vb at e
        cases hx : bitB (X : Int) v <;> cases hy : bitB (Y : Int) v <;> rw [hx, hy] at e <;> first | rfl | (exfalso; revert e; decide)
      · exact ih (by omega) v hv
  apply Nat.eq_of_testBit_eq
  intro j
  by_cases hj : j < ps.length
  · have hm : (j : Int) ∈ ps := (permB_perm.1 hp).2.symm.subset (mem_numsI.2 ⟨by omega, by omega⟩)
    have := key ps h _ hm
    rwa [bitB_testBit, bitB_testBit] at this
  · rw [Nat.testBit_lt_two_pow (Nat.lt_of_lt_of_le hX (Nat.pow_le_pow_right (by decide) (by omega))), Nat.testBit_lt_two_pow (Nat.lt_of_lt_of_le hY (Nat.pow_le_pow_right (by decide) (by omega)))]

theorem dnN_onto {ps : List Int} (hp : permB ps = true) {y : Nat} (hy : y < 2 ^ ps.length) : ∃ X, X < 2 ^ ps.length ∧ dnN X ps = y := by
  have hnd : ((List.range (2 ^ ps.length)).map (fun X => (dnN X ps : Int))).Nodup := by
    rw [List.nodup_iff_pairwise_ne, List.pairwise_map]
    refine (List.nodup_iff_pairwise_ne.1 List.nodup_range).imp_of_mem ?_
    intro a b ha hb hne he
    rw [List.mem_range] at ha hb
    exact hne (dnN_inj hp ha hb (by omega))
  have hsub : ∀ x ∈ (List.range (2 ^ ps.length)).map (fun X => (dnN X ps : Int)), x ∈ numsI (2 ^ ps.length) := fun x hx => by
    obtain ⟨X, _, rfl⟩ := List.mem_map.1 hx
    have := dnN_lt X ps
    exact mem_numsI.2 ⟨by omega, by omega⟩
  have hperm := perm_of_sub _ (numsI (2 ^ ps.length)) hnd hsub (by rw [numsI_len, List.length_map, List.length_range]; exact Nat.le_refl _)
  have hm : (y : Int) ∈ (List.range (2 ^ ps.length)).map (fun X => (dnN X ps : Int)) := hperm.subset (mem_numsI.2 ⟨by omega, by omega⟩)
  obtain ⟨X, hX, he⟩ := List.mem_map.1 hm
  exact ⟨X, List.mem_range.1 hX, by omega⟩

end Go.Proofs.YtoeoehbpahodnaaGreat

namespace Go.Proofs.YtoeoehbpahodnaaGreat
set_option linter.unusedSimpArgs false
set_option linter.unusedVariables false
set_option maxHeartbeats 600000
open Go.RowKit

theorem bitI_vb (X : Nat) (v : Int) : bitI (bitB (X : Int) v) = (vb X v : Int) := by
  unfold vb
  cases bitB (X : Int) v <;> rfl

set_option maxRecDepth 100000 in
theorem down_calls (a : Option Addr) (cap : Nat) (ps : List Int) (w : World) (h : IntsAt w a ps) (hl : ps.length ≤ 16) (hr : ∀ x ∈ ps, 0 ≤ x ∧ x ≤ 16) (X : Nat) (hX : X ≤ 65535) :
    Calls Tryz.prog 214 #[.slice a ps.length cap, .int .i64 (X : Int)] w fun e w' => e = .returned (.int .i64 (dnN X ps : Int)) ∧ w = w' := by
  obtain ⟨N, hN⟩ : ∃ N, N = ps.length := ⟨_, rfl⟩
  rw [← hN] at hl ⊢
  have H := Lib.hid h
  have HN := Lib.hid hN
  have HR := Lib.hid hr
  clear h hN hr
  go_enter Tryz.func214, Tryz.ntmps214
  go_wp2
  go_loopg [5, 6] N (fun gk s5 s6 wr => ∃ d : Nat, s5 = .int .i64 (dnN X (ps.take d) : Int) ∧ s6 = .int .i64 (d : Int) ∧ d + gk = N ∧ w = wr)
  case atStart => exact ⟨0, by simp [dnN], rfl, by omega, rfl⟩
  case round =>
    obtain ⟨d, rfl, rfl, hd, rfl⟩ := hrel
    obtain ⟨y, hy⟩ : ∃ y, y = dnN X (ps.take d) := ⟨_, rfl⟩
    have hy16 : y < 65536 := by
      have h1 := dnN_lt X (ps.take d)
      have h2 : 2 ^ (ps.take d).length ≤ 2 ^ 16 := Nat.pow_le_pow_right (by decide) (by rw [List.length_take]; omega)
      have e16 : (2 : Nat) ^ 16 = 65536 := rfl
      omega
    rw [← hy]
    have HY := Lib.hid hy
    clear hy
    by_cases hlt : d < N
    · obtain ⟨x, hx⟩ : ∃ b, ps[d]? = some b := ⟨_, List.getElem?_eq_getElem (by rw [← HN.out]; exact hlt)⟩
      obtain ⟨b, off, rfl, c0⟩ := H.out d x hx
      have hxr := HR.out x (List.mem_of_getElem? hx)
      have htk := take_snoc hx
      have hv := fun (W : World) => value_calls (X : Int) x W (by omega) (by omega) hxr.1 hxr.2
      rw [bitI_vb] at hv
      have hvb := vb_le X x
      obtain ⟨u, hu⟩ : ∃ u, u = vb X x := ⟨_, rfl⟩
      rw [← hu] at hv hvb
      have HV := Lib.hid hv
      have hnext : Hid (dnN X (ps.take (d + 1)) = 2 * y + u) := Lib.hid (by rw [htk, dnN_snoc, ← HY.out, ← hu])
      clear hx htk hv hu hxr
      go_wp2_with (first | (go_at_call 104; refine (HV.out _).mono ?_; rintro e w1 ⟨rfl, rfl⟩) | fail)
      go_roundg (gk - 1)
      case rel => exact ⟨d + 1, by rw [hnext.out]; push_cast; rfl, by simp, by omega, rfl⟩
      case measure => omega
    · have hd2 : d = N := by omega
      have hres : Hid (dnN X ps = y) := Lib.hid (by rw [HY.out, List.take_of_length_le (by rw [← HN.out]; omega)])
      clear hd2
      go_wp2_with fail
      go_ret
      exact ⟨by rw [hres.out]; rfl, rfl⟩

end Go.Proofs.YtoeoehbpahodnaaGreat

namespace Go.Proofs.YtoeoehbpahodnaaGreat
set_option linter.unusedSimpArgs false
set_option linter.unusedVariables false
set_option maxHeartbeats 600000

def Fit0 (M : St) : Prop := ∀ id r, look M.cs id = some r → 0 ≤ r.lo.to ∧ 0 ≤ r.hi.to

theorem find_fit0 {M : St} (hw : M.wf) (h : Fit0 M) {q : Rec} (hq : 0 ≤ q.lo.to ∧ 0 ≤ q.hi.to) : Fit0 (M.findSt q) := by
  unfold St.findSt
  cases M.idOf q with
  | some id => exact h
  | none =>
    simp only []
    split
    · exact h
    · split
      · exact h
      · intro id r hr
        rcases (look_put hw.gone id r).1 hr with ⟨_, rfl⟩ | hr
        · exact hq
        · exact h id r hr

end Go.Proofs.YtoeoehbpahodnaaGreat

namespace Go.Proofs.YtoeoehbpahodnaaGreat
set_option linter.unusedSimpArgs false
set_option linter.unusedVariables false
set_option maxHeartbeats 600000
open Go.RowKit

theorem size_made {f : Int} {M : St} (hM : Fine f M) (hf : 1 ≤ f ∧ f ≤ 5) {k : Nat} {ts : List Bool} {e : Edge} (h : IsT f M k ts 0 e) (he : 0 ≤ e.to) (hn : (0 : Int) + (k : Nat) = M.n) :
    (partsTo (termK f k ts 0) (termK f k ts 0).size).length = (reachL M.cs [e.to]).length := by
  have hc := parts_count hM (k + 1) e 0 ⟨h.leads hM.wf hf hn, he, by push_cast; omega⟩
  rwa [twoK hM.wf hf h hn (by omega) k (Nat.le_refl _)] at hc

end Go.Proofs.YtoeoehbpahodnaaGreat
