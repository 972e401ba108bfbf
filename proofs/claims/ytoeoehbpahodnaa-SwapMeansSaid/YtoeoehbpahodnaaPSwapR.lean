/-
  Rows of roots, of forms; swap.may, swap.fit; ramageref26.May; law26.roots.
-/
import Derived.Test.YtoeoehbpahodnaaPSwapU
namespace Go.Proofs.Ytoeoehbpahodnaa
set_option linter.unusedSimpArgs false
set_option linter.unusedVariables false
set_option maxHeartbeats 600000
open Go.RowKit

def IsRoots (w : World) (a : Option Addr) (rs : List (Int × Edge)) : Prop :=
  ∀ i r, rs[i]? = some r → (0 ≤ r.1 ∧ r.1 ≤ 255) ∧ r.2.ok ∧ ∃ b off, a = some ⟨b, off, none⟩ ∧ w.cell? ⟨b, off + i * 3, none⟩ = some (.int .u8 r.1) ∧ w.cell? ⟨b, off + i * 3 + 1, none⟩ = some (.int .u8 r.2.tag) ∧ w.cell? ⟨b, off + i * 3 + 2, none⟩ = some (.int .u32 r.2.to)

theorem IsRoots.keeps {w w' : World} {a : Option Addr} {rs : List (Int × Edge)} (h : IsRoots w a rs) (hk : Keeps w w') : IsRoots w' a rs := fun i r hr => by
  obtain ⟨h1, h2, b, off, ha, c0, c1, c2⟩ := h i r hr
  exact ⟨h1, h2, b, off, ha, hk.cell c0, hk.cell c1, hk.cell c2⟩

def IsForms (w : World) (a : Option Addr) (fs : List Int) : Prop := ∀ i f, fs[i]? = some f → ∃ b off, a = some ⟨b, off, none⟩ ∧ w.cell? ⟨b, off + i, none⟩ = some (.int .u8 f)

theorem IsForms.keeps {w w' : World} {a : Option Addr} {fs : List Int} (h : IsForms w a fs) (hk : Keeps w w') : IsForms w' a fs := fun i f hf => by
  obtain ⟨b, off, ha, c⟩ := h i f hf
  exact ⟨b, off, ha, hk.cell c⟩

def EdgesAt (w : World) (a : Option Addr) (es : List Edge) : Prop := ∀ i e, es[i]? = some e → e.ok ∧ ∃ b off, a = some ⟨b, off, none⟩ ∧ w.cell? ⟨b, off + i * 2, none⟩ = some (.int .u8 e.tag) ∧ w.cell? ⟨b, off + i * 2 + 1, none⟩ = some (.int .u32 e.to)

theorem EdgesAt.keeps {w w' : World} {a : Option Addr} {es : List Edge} (h : EdgesAt w a es) (hk : Keeps w w') : EdgesAt w' a es := fun i e he => by
  obtain ⟨h1, b, off, ha, c0, c1⟩ := h i e he
  exact ⟨h1, b, off, ha, hk.cell c0, hk.cell c1⟩

def mayL (M : St) : List (Int × Edge) → Int
  | [] => 0
  | r :: rs => if mayC M r.1 r.2 0 = 0 then mayL M rs else mayC M r.1 r.2 0

theorem mayL_cons (M : St) (r : Int × Edge) (rs : List (Int × Edge)) : mayL M (r :: rs) = if mayC M r.1 r.2 0 = 0 then mayL M rs else mayC M r.1 r.2 0 := rfl

theorem mayL_zero {M : St} : ∀ {rs : List (Int × Edge)}, mayL M rs = 0 → ∀ r ∈ rs, (1 ≤ r.1 ∧ r.1 ≤ 5) ∧ M.leads r.1 r.2 0 = true := by
  intro rs
  induction rs with
  | nil => intro _ r hr; cases hr
  | cons s rs ih =>
    intro h r hr
    unfold mayL at h
    split at h
    · rename_i hc
      rcases List.mem_cons.1 hr with rfl | hr
      · unfold mayC at hc
        split at hc
        · cases hc
        · rename_i hf
          split at hc
          · cases hc
          · split at hc
            · cases hc
            · rename_i hl
              have h1 : isFormB r.1 = true := by cases hb : isFormB r.1 with | true => rfl | false => exact absurd hb hf
              unfold isFormB at h1
              exact ⟨by simpa using h1, by cases hb : M.leads r.1 r.2 0 with | true => rfl | false => exact absurd hb hl⟩
      · exact ih h r hr
    · rename_i hc
      exact absurd h hc

theorem mayL_range (M : St) : ∀ rs : List (Int × Edge), 0 ≤ mayL M rs ∧ mayL M rs ≤ 4 := by
  intro rs
  induction rs with
  | nil => exact ⟨Int.le_refl _, by show (0 : Int) ≤ 4; decide⟩
  | cons r rs ih =>
    have := mayC_range M r.1 r.2 0
    unfold mayL
    split
    · exact ih
    · omega

theorem mayC_0 {M : St} (h : M.wf) (f : Int) (e : Edge) : mayC M f e 0 = if isFormB f = false then 4 else if M.leads f e 0 = false then 1 else 0 := by
  have := h.n0
  unfold mayC
  rw [if_neg (show ¬ ((0 : Int) < 0 ∨ M.n < 0) by omega)]

set_option maxRecDepth 100000 in
set_option maxHeartbeats 2000000 in
theorem swapMay_calls {F : Nat → Prop} {w : World} {sb : Nat} {M : St} (h : StoreRep F w sb M) (a : Option Addr) (cap : Nat) (rs : List (Int × Edge)) (hr : IsRoots w a rs) (hl : rs.length ≤ 1048576) :
    Calls Try.prog 67 #[.pointer (some ⟨sb, 0, none⟩), .slice a rs.length cap] w fun e w' => e = .returned (.int .u8 (mayL M rs)) ∧ Keeps w w' := by
  have HL := Lib.hid (fun (f : Int) (v : Edge) (hv : v.ok) (W : World) (hW : Keeps w W) => store_leads (h.keeps hW) f v 0 hv)
  have HW := Lib.hid h.wf
  obtain ⟨N, hN⟩ : ∃ N, N = rs.length := ⟨_, rfl⟩
  rw [← hN] at hl ⊢
  have HR := Lib.hid hr
  have HN := Lib.hid hN
  clear h hr hN
  go_enter Try.func67, Try.ntmps67
  go_wp2
  go_loopg [9] N (fun gk s9 wr => ∃ d : Nat, s9 = .int .i64 (d : Int) ∧ d + gk = N ∧ mayL M (rs.drop d) = mayL M rs ∧ Keeps w wr)
  case atStart => exact ⟨0, rfl, by omega, rfl, by (exact kp)⟩
  case round =>
    obtain ⟨d, rfl, hd, hm, hk⟩ := hrel
    have HMM := Lib.hid hm
    clear hm
    by_cases hlt : d < N
    · obtain ⟨r, hx⟩ : ∃ b, rs[d]? = some b := ⟨_, List.getElem?_eq_getElem (by rw [← HN.out]; exact hlt)⟩
      obtain ⟨hf8, hok, b, off, rfl, c0, c1, c2⟩ := HR.out d r hx
      replace c0 := hk.cell c0
      replace c1 := hk.cell c1
      replace c2 := hk.cell c2
      have hdr : rs.drop d = r :: rs.drop (d + 1) := by
        obtain ⟨hi, he⟩ := List.getElem?_eq_some_iff.1 hx
        rw [List.drop_eq_getElem_cons hi, he]
      have hm := HMM.out
      rw [hdr] at hm
      rw [mayL_cons, mayC_0 HW.out] at hm
      obtain ⟨f, e⟩ := r
      have hif := isForm_calls f
      have hle := fun (W : World) (hW : Keeps w W) => HL.out f e hok W hW
      dsimp only at hf8 hok c0 c1 c2 hm
      cases hfb : isFormB f with
      | false =>
        rw [hfb] at hif hm
        have HIF := Lib.hid hif
        have hres : Hid (mayL M rs = 4) := Lib.hid (by rw [← hm]; simp)
        clear hm hif hle hdr hx hok hfb
        go_wp2_with (first | (go_at_call 77; refine (HIF.out _).mono ?_; rintro e' w' ⟨rfl, rfl⟩) | fail)
        go_ret
        exact ⟨by rw [hres.out]; rfl, by (exact kp)⟩
      | true =>
        rw [hfb] at hif hm
        have HIF := Lib.hid hif
        cases hlb : M.leads f e 0 with
        | false =>
          rw [hlb] at hle hm
          have HLE := Lib.hid hle
          have hres : Hid (mayL M rs = 1) := Lib.hid (by rw [← hm]; simp)
          clear hm hif hle hdr hx hok hfb hlb
          go_wp2_with (first | (go_at_call 77; refine (HIF.out _).mono ?_; rintro e' w' ⟨rfl, rfl⟩) | (go_at_call 60; refine (HLE.out _ (by (exact kp))).mono ?_; rintro e' w3 ⟨rfl, hk3⟩) | fail)
          go_ret
          exact ⟨by rw [hres.out]; rfl, by (exact kp)⟩
        | true =>
          rw [hlb] at hle hm
          have HLE := Lib.hid hle
          have hres : Hid (mayL M (rs.drop (d + 1)) = mayL M rs) := Lib.hid (by rw [← hm]; simp)
          clear hm hif hle hdr hx hok hfb hlb
          go_wp2_with (first | (go_at_call 77; refine (HIF.out _).mono ?_; rintro e' w' ⟨rfl, rfl⟩) | (go_at_call 60; refine (HLE.out _ (by (exact kp))).mono ?_; rintro e' w3 ⟨rfl, hk3⟩) | fail)
          go_roundg (gk - 1)
          case rel => exact ⟨d + 1, by simp, by omega, hres.out, by (exact kp)⟩
          case measure => omega
    · have hres : Hid (mayL M rs = 0) := Lib.hid (by rw [← HMM.out, List.drop_of_length_le (by rw [← HN.out]; omega)]; rfl)
      clear HMM
      go_wp2_with fail
      go_ret
      exact ⟨by rw [hres.out]; rfl, hk⟩

set_option maxRecDepth 100000 in
theorem swapFit_calls {F Fo : Nat → Prop} {w : World} {sb ob : Nat} {M : St} {ps : List Int} (h : StoreRep F w sb M) (ho : OrdRep Fo w ob ps) :
    Calls Try.prog 35 #[.pointer (some ⟨sb, 0, none⟩), .pointer (some ⟨ob, 0, none⟩)] w fun e w' => e = .returned (.int .u8 (if M.n = (ps.length : Int) then 0 else 1)) ∧ Keeps w w' := by
  have HV := Lib.hid (fun (W : World) (hW : Keeps w W) => store_vars (h.keeps hW))
  have HO := Lib.hid (fun (W : World) (hW : Keeps w W) => ordVars_calls (ho.keeps hW))
  have hn0 := h.wf.n0
  have hn16 := h.wf.n16
  have hp16 := ho.le
  obtain ⟨N, hN⟩ : ∃ N, N = ps.length := ⟨_, rfl⟩
  obtain ⟨n, hn⟩ : ∃ n, n = M.n := ⟨_, rfl⟩
  rw [← hN] at HO hp16 ⊢
  rw [← hn] at HV hn0 hn16 ⊢
  clear h ho hN hn
  by_cases he : n = (N : Int)
  · rw [if_pos he]
    subst he
    go_enter Try.func35, Try.ntmps35
    go_wp2_with (first | (go_at_call 36; refine (HV.out _ (by (exact kp))).mono ?_; rintro e' w' ⟨rfl, rfl⟩) | (go_at_call 66; refine (HO.out _ (by (exact kp))).mono ?_; rintro e' w' ⟨rfl, rfl⟩) | fail)
    go_ret
    exact ⟨rfl, by (exact kp)⟩
  · rw [if_neg he]
    have g1 : (n != (N : Int)) = true := by simp [he]
    go_enter Try.func35, Try.ntmps35
    go_wp2_with (first | (go_at_call 36; refine (HV.out _ (by (exact kp))).mono ?_; rintro e' w' ⟨rfl, rfl⟩) | (go_at_call 66; refine (HO.out _ (by (exact kp))).mono ?_; rintro e' w' ⟨rfl, rfl⟩) | fail)
    go_ret
    exact ⟨rfl, by (exact kp)⟩

end Go.Proofs.Ytoeoehbpahodnaa

namespace Go.Proofs.Ytoeoehbpahodnaa
set_option linter.unusedSimpArgs false
set_option linter.unusedVariables false
set_option maxHeartbeats 600000
open Go.RowKit

def RowE (w : World) (g : Nat) (es : List Edge) : Prop := ∃ cur : Array Value, w.heap[g]? = some (.cells cur 63 (0, 0)) ∧ ∀ (i : Nat) (e : Edge), es[i]? = some e → cur[i * 2]? = some (Value.int .u8 e.tag) ∧ cur[i * 2 + 1]? = some (Value.int .u32 e.to)

theorem RowE.cell {w : World} {g : Nat} {es : List Edge} (h : RowE w g es) {i : Nat} {e : Edge} (hx : es[i]? = some e) : w.cell? ⟨g, i * 2, none⟩ = some (.int .u8 e.tag) ∧ w.cell? ⟨g, i * 2 + 1, none⟩ = some (.int .u32 e.to) := by
  obtain ⟨cur, h1, h2⟩ := h
  obtain ⟨a, b⟩ := h2 i e hx
  exact ⟨by rw [cell_of_row w g _ _ _ _ h1]; simp only [a], by rw [cell_of_row w g _ _ _ _ h1]; simp only [b]⟩

theorem RowE.frozen {w : World} {g : Nat} {es : List Edge} (h : RowE w g es) (i : Nat) : w.frozen? ⟨g, i, none⟩ = false := by
  obtain ⟨cur, h1, h2⟩ := h
  exact frozen_of_row w g i _ _ h1

theorem RowE.lt {w : World} {g : Nat} {es : List Edge} (h : RowE w g es) : g < w.heap.size := by
  obtain ⟨cur, h1, h2⟩ := h
  exact lt_of_heap h1

theorem RowE.keep {G : Nat → Prop} {w w' : World} {g : Nat} {es : List Edge} (h : RowE w g es) (hu : Upd G w w') (hg : ¬ G g) : RowE w' g es := by
  have hl := h.lt
  obtain ⟨cur, h1, h2⟩ := h
  exact ⟨cur, (hu.block g hl hg).trans h1, h2⟩

theorem RowE.keeps {w w' : World} {g : Nat} {es : List Edge} (h : RowE w g es) (hk : Keeps w w') : RowE w' g es := h.keep (hk.upd (fun _ => False)) (fun h => h)

theorem RowE.at {w : World} {g : Nat} {es : List Edge} (h : RowE w g es) (hok : ∀ e ∈ es, e.ok) : EdgesAt w (some ⟨g, 0, none⟩) es := fun i e he => ⟨hok e (List.mem_of_getElem? he), g, 0, rfl, by rw [Nat.zero_add]; exact (h.cell he).1, by rw [Nat.zero_add]; exact (h.cell he).2⟩

theorem RowE.set {w : World} {g : Nat} {es : List Edge} (h : RowE w g es) (i : Nat) (e : Edge) (hi : i < es.length) : RowE ((w.setCell ⟨g, i * 2, none⟩ (.int .u8 e.tag)).setCell ⟨g, i * 2 + 1, none⟩ (.int .u32 e.to)) g (es.set i e) := by
  obtain ⟨cur, h1, h2⟩ := h
  have h3 := Go.heap_setCell_same w g (i * 2) _ _ (.int .u8 e.tag) h1
  refine ⟨_, Go.heap_setCell_same _ g (i * 2 + 1) _ _ (.int .u32 e.to) h3, fun j x hx => ?_⟩
  obtain ⟨a, b⟩ := h2 i es[i] (by simp [hi])
  have l1 := (Array.getElem?_eq_some_iff.1 a).1
  have l2 := (Array.getElem?_eq_some_iff.1 b).1
  by_cases hj : i = j
  · subst hj
    simp [hi] at hx
    subst hx
    constructor
    · rw [Array.getElem?_setIfInBounds, if_neg (by omega), Array.getElem?_setIfInBounds, if_pos rfl, if_pos l1]
    · rw [Array.getElem?_setIfInBounds, if_pos rfl, if_pos (by simpa using l2)]
  · rw [List.getElem?_set_ne hj] at hx
    obtain ⟨c, d⟩ := h2 j x hx
    constructor
    · rw [Array.getElem?_setIfInBounds, if_neg (by omega), Array.getElem?_setIfInBounds, if_neg (by omega)]
      exact c
    · rw [Array.getElem?_setIfInBounds, if_neg (by omega), Array.getElem?_setIfInBounds, if_neg (by omega)]
      exact d

theorem info_edge : (Try.prog.info? 63).map (fun i => (i.zero, i.size, i.bytes)) = some (some (.agg #[.int .u8 0, .int .u32 0]), 2, 8) := by kernel_rfl

theorem rowE_made {w : World} {blk n : Nat} (h : w.ownsRow blk 63 2 (.slice (some ⟨blk, 0, none⟩) n n) n (madeCells (Value.agg #[.int .u8 0, .int .u32 0]).cells (n * 2)).toList) : RowE w blk (List.replicate n ⟨0, 0⟩) := by
  obtain ⟨cur0, hcur0⟩ := owns_type h (k := blk) rfl
  rcases h.2 with ⟨h0, _⟩ | ⟨g', cap', cur, hv, hb, hg, _, _, hs, ht⟩
  · cases h0
  · cases hv
    have key : ∀ j, j < n * 2 → cur[j]? = some (if j % 2 = 0 then Value.int .u8 0 else Value.int .u32 0) := fun j hj => by
      have h1 : (madeCells (Value.agg #[.int .u8 0, .int .u32 0]).cells (n * 2)).toList[j]? = some (if j % 2 = 0 then Value.int .u8 0 else Value.int .u32 0) := by
        simp [madeCells, Value.cells, hj]
        rcases Nat.mod_two_eq_zero_or_one j with q | q
        · rw [q]; rfl
        · rw [q]; rfl
      rw [← ht, List.getElem?_take, if_pos hj, Array.getElem?_toList] at h1
      exact h1
    refine ⟨cur, hg, fun i e he => ?_⟩
    have hi : i < n := by simpa using (List.getElem?_eq_some_iff.1 he).1
    have hee : e = ⟨0, 0⟩ := by
      rw [List.getElem?_replicate, if_pos hi] at he
      exact (Option.some.inj he).symm
    subst hee
    constructor
    · rw [key _ (by omega), if_pos (by omega)]
    · rw [key _ (by omega), if_neg (by omega)]

end Go.Proofs.Ytoeoehbpahodnaa

namespace Go.Proofs.Ytoeoehbpahodnaa
set_option linter.unusedSimpArgs false
set_option linter.unusedVariables false
set_option maxHeartbeats 600000

def runL (ps : List Int) (ss : List Nat) : List Int := ss.foldl stepL ps

theorem runL_len (ss : List Nat) : ∀ ps : List Int, (runL ps ss).length = ps.length := by
  induction ss with
  | nil => intro ps; rfl
  | cons s ss ih => intro ps; show (runL (stepL ps s) ss).length = _; rw [ih, stepL_len]

theorem runL_snoc (ps : List Int) (ss : List Nat) (s : Nat) : runL ps (ss ++ [s]) = stepL (runL ps ss) s := by
  unfold runL
  rw [List.foldl_append]
  rfl

theorem runL_perm (ss : List Nat) : ∀ ps : List Int, (∀ s ∈ ss, s + 1 < ps.length) → permB ps = true → permB (runL ps ss) = true := by
  induction ss with
  | nil => intro ps _ h; exact h
  | cons s ss ih =>
    intro ps h1 h2
    show permB (runL (stepL ps s) ss) = true
    exact ih _ (fun t ht => by rw [stepL_len]; exact h1 t (by simp [ht])) (stepL_perm (h1 s (by simp)) h2)

structure RootOk (n : Nat) (ss : List Nat) (M0 M : St) (f : Int) (e x : Edge) : Prop where
  lead : M.leads f x 0 = true
  ok : x.ok
  tab : ∀ ps : List Int, ps.length = n → tabP M (runL ps ss) f x = tabP M0 ps f e
  right : rightK M0 f e 0 → rightK M f x 0

theorem RootOk.start {n : Nat} {M : St} {f : Int} {e : Edge} (hl : M.leads f e 0 = true) (he : e.ok) : RootOk n [] M M f e e := ⟨hl, he, fun _ _ => rfl, fun h => h⟩

theorem RootOk.ext {n : Nat} {ss : List Nat} {M0 M M' : St} {f : Int} {e x : Edge} (h : RootOk n ss M0 M f e x) (hw : M.wf) (hE : Ext M M') : RootOk n ss M0 M' f e x :=
  ⟨hE.leads h.lead, h.ok, fun ps hp => by rw [tabP_ext hw hE h.lead]; exact h.tab ps hp, fun hr => rightK_ext hE hw (h.right hr)⟩

theorem RootOk.step {n : Nat} {ss : List Nat} {M0 M M' : St} {f : Int} {e x x' : Edge} {lv : Nat} (h : RootOk n ss M0 M f e x) (hw : M.wf) (hE : Ext M M') (hg : GoodS (lv : Int) f M' x 0 x') (hlv : lv + 1 < n) : RootOk n (ss ++ [lv]) M0 M' f e x' :=
  ⟨hg.lead, hg.ok, fun ps hp => by
    rw [runL_snoc, hg.tabP (by rw [runL_len, hp]; exact hlv), tabP_ext hw hE h.lead]
    exact h.tab ps hp, fun hr => hg.right (rightK_ext hE hw (h.right hr))⟩

def RootsOk (n : Nat) (ss : List Nat) (M0 M : St) (rs : List (Int × Edge)) (es : List Edge) : Prop :=
  es.length = rs.length ∧ ∀ (i : Nat) (r : Int × Edge) (x : Edge), rs[i]? = some r → es[i]? = some x → RootOk n ss M0 M r.1 r.2 x

def RootsMid (n : Nat) (ss : List Nat) (lv d : Nat) (M0 M : St) (rs : List (Int × Edge)) (es : List Edge) : Prop :=
  es.length = rs.length ∧ ∀ (i : Nat) (r : Int × Edge) (x : Edge), rs[i]? = some r → es[i]? = some x → RootOk n (if i < d then ss ++ [lv] else ss) M0 M r.1 r.2 x

theorem RootsOk.mid {n : Nat} {ss : List Nat} {M0 M : St} {rs : List (Int × Edge)} {es : List Edge} (h : RootsOk n ss M0 M rs es) (lv : Nat) : RootsMid n ss lv 0 M0 M rs es :=
  ⟨h.1, fun i r x h1 h2 => by rw [if_neg (by omega)]; exact h.2 i r x h1 h2⟩

theorem RootsMid.all {n : Nat} {ss : List Nat} {lv : Nat} {M0 M : St} {rs : List (Int × Edge)} {es : List Edge} (h : RootsMid n ss lv rs.length M0 M rs es) : RootsOk n (ss ++ [lv]) M0 M rs es :=
  ⟨h.1, fun i r x h1 h2 => by
    have := h.2 i r x h1 h2
    rw [if_pos (List.getElem?_eq_some_iff.1 h1).1] at this
    exact this⟩

theorem RootsMid.next {n : Nat} {ss : List Nat} {lv d : Nat} {M0 M M' : St} {rs : List (Int × Edge)} {es : List Edge} {r : Int × Edge} {x x' : Edge} (h : RootsMid n ss lv d M0 M rs es) (hr : rs[d]? = some r) (hx : es[d]? = some x) (hw : M.wf) (hE : Ext M M') (hg : GoodS (lv : Int) r.1 M' x 0 x') (hlv : lv + 1 < n) :
    RootsMid n ss lv (d + 1) M0 M' rs (es.set d x') := by
  refine ⟨by rw [List.length_set]; exact h.1, fun i q y h1 h2 => ?_⟩
  by_cases hid : i = d
  · subst hid
    rw [hr] at h1
    cases h1
    rw [List.getElem?_set_self (List.getElem?_eq_some_iff.1 hx).1] at h2
    cases h2
    have := h.2 i r x hr hx
    rw [if_neg (by omega)] at this
    rw [if_pos (by omega)]
    exact this.step hw hE hg hlv
  · rw [List.getElem?_set_ne (fun e => hid e.symm)] at h2
    have := (h.2 i q y h1 h2).ext hw hE
    by_cases hlt : i < d
    · rw [if_pos hlt] at this
      rw [if_pos (by omega)]
      exact this
    · rw [if_neg hlt] at this
      rw [if_neg (by omega)]
      exact this

end Go.Proofs.Ytoeoehbpahodnaa
