/-
  Plainly: steps there and back; right roots come back as they were.
-/
import Derived.Test.YtoeoehbpahodnaaPSwapGxB
namespace Go.Proofs.Ytoeoehbpahodnaa
set_option linter.unusedSimpArgs false
set_option linter.unusedVariables false
set_option maxHeartbeats 600000

theorem stepL_twice {ps : List Int} {i : Nat} (h : i + 1 < ps.length) : stepL (stepL ps i) i = ps := by
  apply List.ext_getElem?
  intro j
  have h2 : i + 1 < (stepL ps i).length := by rw [stepL_len]; exact h
  rw [stepL_get h2]
  by_cases h3 : j = i
  · rw [if_pos h3, stepL_get h, if_neg (by omega), if_pos rfl, h3]
  · rw [if_neg h3]
    by_cases h4 : j = i + 1
    · rw [if_pos h4, stepL_get h, if_pos rfl, h4]
    · rw [if_neg h4, stepL_get h, if_neg h3, if_neg h4]

theorem runL_append (ps : List Int) (ss ts : List Nat) : runL ps (ss ++ ts) = runL (runL ps ss) ts := by
  unfold runL
  rw [List.foldl_append]

theorem runL_back : ∀ (ss : List Nat) (ps : List Int), (∀ s ∈ ss, s + 1 < ps.length) → runL (runL ps ss) ss.reverse = ps := by
  intro ss
  induction ss with
  | nil => intro ps _; rfl
  | cons s ss ih =>
    intro ps h
    show runL (runL (stepL ps s) ss) (s :: ss).reverse = ps
    rw [List.reverse_cons, runL_append, ih (stepL ps s) (fun t ht => by rw [stepL_len]; exact h t (by simp [ht]))]
    exact stepL_twice (h s (by simp))

theorem moveL_back (a b : Nat) : moveL b a = (moveL a b).reverse := by
  apply List.ext_getElem?
  intro j
  by_cases hab : a ≤ b
  · by_cases he : a = b
    · subst he
      simp [moveL]
    · have e1 : moveL b a = (List.range (b - a)).map (fun i => b - 1 - i) := if_neg (by omega)
      have e2 : moveL a b = (List.range (b - a)).map (fun i => a + i) := if_pos (by omega)
      rw [e1, e2]
      by_cases hj : j < b - a
      · rw [List.getElem?_reverse (by simp; exact hj), List.getElem?_map, List.getElem?_map, List.getElem?_range hj, List.getElem?_range (by simp; omega)]
        simp
        omega
      · rw [List.getElem?_eq_none (by simp; omega), List.getElem?_eq_none (by simp; omega)]
  · have e1 : moveL b a = (List.range (a - b)).map (fun i => b + i) := if_pos (by omega)
    have e2 : moveL a b = (List.range (a - b)).map (fun i => a - 1 - i) := if_neg (by omega)
    rw [e1, e2]
    by_cases hj : j < a - b
    · rw [List.getElem?_reverse (by simp; exact hj), List.getElem?_map, List.getElem?_map, List.getElem?_range hj, List.getElem?_range (by simp; omega)]
      simp
      omega
    · rw [List.getElem?_eq_none (by simp; omega), List.getElem?_eq_none (by simp; omega)]

theorem runL_move {ps : List Int} {a b : Nat} (ha : a < ps.length) (hb : b < ps.length) : runL (runL ps (moveL a b)) (moveL b a) = ps := by
  rw [moveL_back a b]
  exact runL_back _ ps (fun s hs => moveL_mem2 ha hb hs)

theorem dnN_inj {ps : List Int} (hp : permB ps = true) {X Y : Nat} (hX : X < 2 ^ ps.length) (hY : Y < 2 ^ ps.length) (h : dnN X ps = dnN Y ps) : X = Y := by
  have key : ∀ (vs : List Int), dnN X vs = dnN Y vs → ∀ v ∈ vs, bitB (X : Int) v = bitB (Y : Int) v := by
    intro vs
    induction vs with
    | nil => intro _ v hv; cases hv
    | cons u vs ih =>
      intro hh v hv
      have h1 := dnN_lt X vs
      have h2 := dnN_lt Y vs
      change vb X u * 2 ^ vs.length + dnN X vs = vb Y u * 2 ^ vs.length + dnN Y vs at hh
      have b1 := vb_le X u
      have b2 := vb_le Y u
      have c1 : vb X u = 0 ∨ vb X u = 1 := by omega
      have c2 : vb Y u = 0 ∨ vb Y u = 1 := by omega
      have e : vb X u = vb Y u := by
        rcases c1 with c1 | c1 <;> rcases c2 with c2 | c2 <;> rw [c1, c2] at hh ⊢ <;> omega
      rw [e] at hh
      rcases List.mem_cons.1 hv with rfl | hv
      · unfold vb at e
        cases hx : bitB (X : Int) v <;> cases hy : bitB (Y : Int) v <;> rw [hx, hy] at e <;> first | rfl | (exfalso; revert e; decide)
      · exact ih (by omega) v hv
  apply Nat.eq_of_testBit_eq
  intro j
  by_cases hj : j < ps.length
  · have hm : (j : Int) ∈ ps := (permB_perm.1 hp).2.symm.subset (mem_numsI.2 ⟨by omega, by omega⟩)
    have := key ps h _ hm
    rwa [bitB_testBit, bitB_testBit] at this
  · rw [Nat.testBit_lt_two_pow (Nat.lt_of_lt_of_le hX (Nat.pow_le_pow_right (by decide) (by omega))), Nat.testBit_lt_two_pow (Nat.lt_of_lt_of_le hY (Nat.pow_le_pow_right (by decide) (by omega)))]

theorem dnN_onto {ps : List Int} (hp : permB ps = true) {y : Nat} (hy : y < 2 ^ ps.length) : ∃ X, X < 2 ^ ps.length ∧ dnN X ps = y := by
  have hnd : ((List.range (2 ^ ps.length)).map (fun X => (dnN X ps : Int))).Nodup := by
    rw [List.nodup_iff_pairwise_ne, List.pairwise_map]
    refine (List.nodup_iff_pairwise_ne.1 List.nodup_range).imp_of_mem ?_
    intro a b ha hb hne he
    rw [List.mem_range] at ha hb
    exact hne (dnN_inj hp ha hb (by omega))
  have hsub : ∀ x ∈ (List.range (2 ^ ps.length)).map (fun X => (dnN X ps : Int)), x ∈ numsI (2 ^ ps.length) := fun x hx => by
    obtain ⟨X, _, rfl⟩ := List.mem_map.1 hx
    have := dnN_lt X ps
    exact mem_numsI.2 ⟨by omega, by omega⟩
  have hperm := perm_of_sub _ (numsI (2 ^ ps.length)) hnd hsub (by rw [numsI_len, List.length_map, List.length_range]; exact Nat.le_refl _)
  have hm : (y : Int) ∈ (List.range (2 ^ ps.length)).map (fun X => (dnN X ps : Int)) := hperm.subset (mem_numsI.2 ⟨by omega, by omega⟩)
  obtain ⟨X, hX, he⟩ := List.mem_map.1 hm
  exact ⟨X, List.mem_range.1 hX, by omega⟩

theorem tabE_of_tabP {M : St} {ps : List Int} {f : Int} {e e' : Edge} (hp : permB ps = true) (hn : M.n = (ps.length : Int)) (h : tabP M ps f e = tabP M ps f e') : tabE M f e 0 = tabE M f e' 0 := by
  apply List.ext_getElem?
  intro y
  have hl : (tabE M f e 0).length = 2 ^ ps.length := by rw [tabE_len]; congr 1; omega
  have hl' : (tabE M f e' 0).length = 2 ^ ps.length := by rw [tabE_len]; congr 1; omega
  by_cases hy : y < 2 ^ ps.length
  · obtain ⟨X, hX, rfl⟩ := dnN_onto hp hy
    rw [tabE_dnN hn, tabE_dnN hn]
    have h1 := tabP_get (M := M) (f := f) (e := e) hX
    have h2 := tabP_get (M := M) (f := f) (e := e') hX
    rw [h] at h1
    rw [← h1, h2]
  · rw [List.getElem?_eq_none (by omega), List.getElem?_eq_none (by omega)]

theorem root_back {n : Nat} {ss ts : List Nat} {M0 M1 M1' M2 : St} {f : Int} {e x y : Edge} {ps : List Int} (hp : permB ps = true) (hlen : ps.length = n) (hn : M2.n = (n : Int)) (hf : 1 ≤ f ∧ f ≤ 5) (h1 : RootOk n ss M0 M1 f e x) (h2 : RootOk n ts M1' M2 f x y)
    (w0 : M0.wf) (w1 : M1.wf) (w1' : M1'.wf) (w2 : M2.wf) (e01 : Ext M0 M1) (e11 : Ext M1 M1') (e12 : Ext M1' M2) (hb : runL (runL ps ss) ts = ps) (hl : M0.leads f e 0 = true) (hr : rightK M0 f e 0) (hto : 0 ≤ e.to) (hfit : Fit0 M2) (hroom : M2.len + 2 * ((2 ^ n : Nat) : Int) ≤ 1048576) : y = e := by
  have e02 := (e01.trans e11).trans e12
  have t1 := h1.tab ps hlen
  have t2 := h2.tab (runL ps ss) (by rw [runL_len]; exact hlen)
  rw [hb, tabP_ext w1 e11 h1.lead, t1] at t2
  rw [← tabP_ext w0 e02 hl] at t2
  have ht := tabE_of_tabP hp (by rw [hlen]; exact hn) t2
  exact right_one (k := n) hf w2 hroom h2.ok.2.1 hto hfit h2.lead (e02.leads hl) (h2.right (rightK_ext e11 w1 (h1.right hr))) (rightK_ext e02 w0 hr) (Int.le_refl _) (by omega) ht

end Go.Proofs.Ytoeoehbpahodnaa
