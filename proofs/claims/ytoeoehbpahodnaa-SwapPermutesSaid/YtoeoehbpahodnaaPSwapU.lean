/-
  Plainly: assignments under an order of the variables; what a step makes of them.
-/
import Derived.Test.YtoeoehbpahodnaaPConvW
import Derived.Test.YtoeoehbpahodnaaPSwapP
namespace Go.Proofs.Ytoeoehbpahodnaa
set_option linter.unusedSimpArgs false
set_option linter.unusedVariables false
set_option maxHeartbeats 600000

def vb (X : Nat) (v : Int) : Nat := if bitB (X : Int) v = true then 1 else 0

theorem vb_le (X : Nat) (v : Int) : vb X v ≤ 1 := by unfold vb; split <;> decide

def upN (X : Nat) : List Int → Nat
  | [] => 0
  | v :: ps => vb X v + 2 * upN X ps

def dnN (X : Nat) : List Int → Nat
  | [] => 0
  | v :: ps => vb X v * 2 ^ ps.length + dnN X ps

theorem dnN_lt (X : Nat) : ∀ ps : List Int, dnN X ps < 2 ^ ps.length := by
  intro ps
  induction ps with
  | nil => exact Nat.one_pos
  | cons v ps ih =>
    have := vb_le X v
    have e2 : 2 ^ (v :: ps).length = 2 ^ ps.length * 2 := by rw [List.length_cons, Nat.pow_succ]
    show vb X v * 2 ^ ps.length + dnN X ps < _
    rw [e2]
    rcases Nat.le_one_iff_eq_zero_or_eq_one.1 this with h | h
    · rw [h]; omega
    · rw [h]; omega

theorem rv_dnN (X : Nat) : ∀ (ps : List Int) (m : Nat), rv (dnN X ps) ps.length m = 2 ^ m * (upN X ps : Int) := by
  intro ps
  induction ps with
  | nil => intro m; show (0 : Int) = 2 ^ m * ((0 : Nat) : Int); simp
  | cons v ps ih =>
    intro m
    have hl := dnN_lt X ps
    have hp : 0 < 2 ^ ps.length := Nat.pow_pos (by decide)
    show (if (vb X v * 2 ^ ps.length + dnN X ps) / 2 ^ ps.length % 2 = 1 then (2 : Int) ^ m else 0) + rv ((vb X v * 2 ^ ps.length + dnN X ps) % 2 ^ ps.length) ps.length (m + 1) = 2 ^ m * ((vb X v + 2 * upN X ps : Nat) : Int)
    have e1 : (vb X v * 2 ^ ps.length + dnN X ps) / 2 ^ ps.length = vb X v := by
      rw [Nat.mul_comm, Nat.mul_add_div hp, Nat.div_eq_of_lt hl, Nat.add_zero]
    have e2 : (vb X v * 2 ^ ps.length + dnN X ps) % 2 ^ ps.length = dnN X ps := by
      rw [Nat.mul_comm, Nat.mul_add_mod, Nat.mod_eq_of_lt hl]
    rw [e1, e2, ih]
    have h1 := vb_le X v
    rw [Int.pow_succ]
    rcases Nat.le_one_iff_eq_zero_or_eq_one.1 h1 with h | h
    · rw [h, if_neg (by decide)]
      push_cast
      rw [Int.mul_assoc, Int.zero_add, Int.zero_add]
    · rw [h, if_pos (by decide)]
      push_cast
      rw [Int.mul_assoc, Int.mul_add]
      omega

theorem bitB_testBit (y j : Nat) : bitB (y : Int) (j : Int) = y.testBit j := by
  rw [bitB_nat, Nat.testBit_eq_decide_div_mod_eq]

theorem upN_bit (X : Nat) : ∀ (ps : List Int) (j : Nat), (upN X ps).testBit j = match ps[j]? with | some v => bitB (X : Int) v | none => false := by
  intro ps
  induction ps with
  | nil => intro j; show (0 : Nat).testBit j = _; simp
  | cons v ps ih =>
    intro j
    show (vb X v + 2 * upN X ps).testBit j = _
    cases j with
    | zero =>
      rw [Nat.testBit_zero]
      show decide ((vb X v + 2 * upN X ps) % 2 = 1) = bitB (X : Int) v
      unfold vb
      cases bitB (X : Int) v with
      | true => rw [if_pos rfl]; exact decide_eq_true (by omega)
      | false => rw [if_neg (by simp)]; exact decide_eq_false (by omega)
    | succ j =>
      rw [Nat.testBit_succ]
      have e : (vb X v + 2 * upN X ps) / 2 = upN X ps := by have := vb_le X v; omega
      rw [e, ih]
      rfl

theorem swB_step {ps : List Int} {i : Nat} (h : i + 1 < ps.length) (X : Nat) : SwB (i : Int) (upN X (stepL ps i) : Int) (upN X ps : Int) := by
  have key : ∀ j : Nat, bitB (upN X (stepL ps i) : Int) (j : Int) = match (if j = i then ps[i + 1]? else if j = i + 1 then ps[i]? else ps[j]?) with | some v => bitB (X : Int) v | none => false := fun j => by
    rw [bitB_testBit, upN_bit, stepL_get h]
  have key2 : ∀ j : Nat, bitB (upN X ps : Int) (j : Int) = match ps[j]? with | some v => bitB (X : Int) v | none => false := fun j => by
    rw [bitB_testBit, upN_bit]
  refine ⟨?_, ?_, fun j h0 h1 h2 => ?_⟩
  · rw [key i, if_pos rfl, show (i : Int) + 1 = ((i + 1 : Nat) : Int) by push_cast; rfl, key2]
  · rw [show (i : Int) + 1 = ((i + 1 : Nat) : Int) by push_cast; rfl, key (i + 1), if_neg (by omega), if_pos rfl, key2]
  · obtain ⟨j, rfl⟩ : ∃ k : Nat, j = (k : Int) := ⟨j.toNat, by omega⟩
    rw [key j, if_neg (by omega), if_neg (by omega), key2]

def tabP (M : St) (ps : List Int) (f : Int) (e : Edge) : List Bool := (List.range (2 ^ ps.length)).map (fun X => tv M f (upN X ps : Int) 0 e)

theorem tabP_get {M : St} {ps : List Int} {f : Int} {e : Edge} {X : Nat} (h : X < 2 ^ ps.length) : (tabP M ps f e)[X]? = some (tv M f (upN X ps : Int) 0 e) := by
  unfold tabP
  simp [h]

theorem tabP_ext {M M' : St} (h : M.wf) (hE : Ext M M') {ps : List Int} {f : Int} {e : Edge} (hl : M.leads f e 0 = true) : tabP M' ps f e = tabP M ps f e := by
  unfold tabP
  refine List.map_congr_left fun X _ => ?_
  exact tv_ext h hE (Weak.of hl)

theorem tabE_dnN {M : St} {ps : List Int} {f : Int} {e : Edge} (hn : M.n = (ps.length : Int)) (X : Nat) : (tabE M f e 0)[dnN X ps]? = some (tv M f (upN X ps : Int) 0 e) := by
  unfold tabE
  rw [show (M.n - 0).toNat = ps.length by omega]
  show (tabX _ ps.length 0 0)[dnN X ps]? = _
  rw [tabX_at _ _ _ _ (dnN_lt X ps), rv_dnN]
  simp

theorem GoodS.tabP {lv : Nat} {f : Int} {M : St} {e x : Edge} (h : GoodS (lv : Int) f M e 0 x) {ps : List Int} (hlv : lv + 1 < ps.length) : tabP M (stepL ps lv) f x = tabP M ps f e := by
  unfold Go.Proofs.Ytoeoehbpahodnaa.tabP
  rw [stepL_len]
  exact List.map_congr_left fun X _ => h.means _ _ (swB_step hlv X)

end Go.Proofs.Ytoeoehbpahodnaa

namespace Go.Proofs.Ytoeoehbpahodnaa
set_option linter.unusedSimpArgs false
set_option linter.unusedVariables false
set_option maxHeartbeats 600000

def runL (ps : List Int) (ss : List Nat) : List Int := ss.foldl stepL ps

theorem runL_len (ss : List Nat) : ∀ ps : List Int, (runL ps ss).length = ps.length := by
  induction ss with
  | nil => intro ps; rfl
  | cons s ss ih => intro ps; show (runL (stepL ps s) ss).length = _; rw [ih, stepL_len]

theorem runL_snoc (ps : List Int) (ss : List Nat) (s : Nat) : runL ps (ss ++ [s]) = stepL (runL ps ss) s := by
  unfold runL
  rw [List.foldl_append]
  rfl

structure RootOk (n : Nat) (ss : List Nat) (M0 M : St) (f : Int) (e x : Edge) : Prop where
  lead : M.leads f x 0 = true
  ok : x.ok
  tab : ∀ ps : List Int, ps.length = n → tabP M (runL ps ss) f x = tabP M0 ps f e
  right : rightK M0 f e 0 → rightK M f x 0

theorem RootOk.start {n : Nat} {M : St} {f : Int} {e : Edge} (hl : M.leads f e 0 = true) (he : e.ok) : RootOk n [] M M f e e := ⟨hl, he, fun _ _ => rfl, fun h => h⟩

theorem RootOk.ext {n : Nat} {ss : List Nat} {M0 M M' : St} {f : Int} {e x : Edge} (h : RootOk n ss M0 M f e x) (hw : M.wf) (hE : Ext M M') : RootOk n ss M0 M' f e x :=
  ⟨hE.leads h.lead, h.ok, fun ps hp => by rw [tabP_ext hw hE h.lead]; exact h.tab ps hp, fun hr => rightK_ext hE hw (h.right hr)⟩

theorem RootOk.step {n : Nat} {ss : List Nat} {M0 M M' : St} {f : Int} {e x x' : Edge} {lv : Nat} (h : RootOk n ss M0 M f e x) (hw : M.wf) (hE : Ext M M') (hg : GoodS (lv : Int) f M' x 0 x') (hlv : lv + 1 < n) : RootOk n (ss ++ [lv]) M0 M' f e x' :=
  ⟨hg.lead, hg.ok, fun ps hp => by
    rw [runL_snoc, hg.tabP (by rw [runL_len, hp]; exact hlv), tabP_ext hw hE h.lead]
    exact h.tab ps hp, fun hr => hg.right (rightK_ext hE hw (h.right hr))⟩

def RootsOk (n : Nat) (ss : List Nat) (M0 M : St) (rs : List (Int × Edge)) (es : List Edge) : Prop :=
  es.length = rs.length ∧ ∀ (i : Nat) (r : Int × Edge) (x : Edge), rs[i]? = some r → es[i]? = some x → RootOk n ss M0 M r.1 r.2 x

def RootsMid (n : Nat) (ss : List Nat) (lv d : Nat) (M0 M : St) (rs : List (Int × Edge)) (es : List Edge) : Prop :=
  es.length = rs.length ∧ ∀ (i : Nat) (r : Int × Edge) (x : Edge), rs[i]? = some r → es[i]? = some x → RootOk n (if i < d then ss ++ [lv] else ss) M0 M r.1 r.2 x

theorem RootsOk.mid {n : Nat} {ss : List Nat} {M0 M : St} {rs : List (Int × Edge)} {es : List Edge} (h : RootsOk n ss M0 M rs es) (lv : Nat) : RootsMid n ss lv 0 M0 M rs es :=
  ⟨h.1, fun i r x h1 h2 => by rw [if_neg (by omega)]; exact h.2 i r x h1 h2⟩

theorem RootsMid.all {n : Nat} {ss : List Nat} {lv : Nat} {M0 M : St} {rs : List (Int × Edge)} {es : List Edge} (h : RootsMid n ss lv rs.length M0 M rs es) : RootsOk n (ss ++ [lv]) M0 M rs es :=
  ⟨h.1, fun i r x h1 h2 => by
    have := h.2 i r x h1 h2
    rw [if_pos (List.getElem?_eq_some_iff.1 h1).1] at this
    exact this⟩

theorem RootsMid.next {n : Nat} {ss : List Nat} {lv d : Nat} {M0 M M' : St} {rs : List (Int × Edge)} {es : List Edge} {r : Int × Edge} {x x' : Edge} (h : RootsMid n ss lv d M0 M rs es) (hr : rs[d]? = some r) (hx : es[d]? = some x) (hw : M.wf) (hE : Ext M M') (hg : GoodS (lv : Int) r.1 M' x 0 x') (hlv : lv + 1 < n) :
    RootsMid n ss lv (d + 1) M0 M' rs (es.set d x') := by
  refine ⟨by rw [List.length_set]; exact h.1, fun i q y h1 h2 => ?_⟩
  by_cases hid : i = d
  · subst hid
    rw [hr] at h1
    cases h1
    rw [List.getElem?_set_self (List.getElem?_eq_some_iff.1 hx).1] at h2
    cases h2
    have := h.2 i r x hr hx
    rw [if_neg (by omega)] at this
    rw [if_pos (by omega)]
    exact this.step hw hE hg hlv
  · rw [List.getElem?_set_ne (fun e => hid e.symm)] at h2
    have := (h.2 i q y h1 h2).ext hw hE
    by_cases hlt : i < d
    · rw [if_pos hlt] at this
      rw [if_pos (by omega)]
      exact this
    · rw [if_neg hlt] at this
      rw [if_neg (by omega)]
      exact this

end Go.Proofs.Ytoeoehbpahodnaa

namespace Go.Proofs.Ytoeoehbpahodnaa
set_option linter.unusedSimpArgs false
set_option linter.unusedVariables false
set_option maxHeartbeats 600000
open Go.RowKit

theorem ordAt_calls (a : Option Addr) (cap : Nat) (ps : List Int) (w : World) (h : IntsAt w a ps) (hl : ps.length ≤ 16) (i : Nat) (x : Int) (hx : ps[i]? = some x) :
    Calls Try.prog 55 #[.slice a ps.length cap, .int .i64 (i : Int)] w fun e w' => e = .returned (.int .i64 x) ∧ w = w' := by
  obtain ⟨b, off, rfl, hc⟩ := h i x hx
  have hi := (List.getElem?_eq_some_iff.1 hx).1
  obtain ⟨N, hN⟩ : ∃ N, N = ps.length := ⟨_, rfl⟩
  rw [← hN] at hl hi ⊢
  clear h hx hN
  go_enter Try.func55, Try.ntmps55
  go_wp2
  go_ret
  exact ⟨rfl, rfl⟩

theorem ordVar_calls {F : Nat → Prop} {w : World} {ob : Nat} {ps : List Int} (h : OrdRep F w ob ps) (i : Nat) (x : Int) (hx : ps[i]? = some x) :
    Calls Try.prog 29 #[.pointer (some ⟨ob, 0, none⟩), .int .i64 (i : Int)] w fun e w' => e = .returned (.int .i64 x) ∧ w = w' := by
  obtain ⟨va, vc, lg, lc, c0, c1, hi⟩ := h.cells
  have HC := Lib.hid (ordAt_calls va vc ps w hi h.le i x hx)
  obtain ⟨n, hn⟩ : ∃ n, n = ps.length := ⟨_, rfl⟩
  rw [← hn] at c0 c1 HC
  clear h c1 hi hn hx
  go_enter Try.func29, Try.ntmps29
  go_wp2_with (first | (go_at_call 55; refine HC.out.mono ?_; rintro e w1 ⟨rfl, rfl⟩) | fail)
  go_ret
  exact ⟨rfl, rfl⟩

theorem ordLevel_calls {F : Nat → Prop} {w : World} {ob : Nat} {ps : List Int} (h : OrdRep F w ob ps) (i v : Nat) (hx : ps[i]? = some (v : Int)) :
    Calls Try.prog 53 #[.pointer (some ⟨ob, 0, none⟩), .int .i64 (v : Int)] w fun e w' => e = .returned (.int .i64 (i : Int)) ∧ w = w' := by
  have hle := h.le
  obtain ⟨⟨va, vc, lg, lc, qs, h1, h2, h3, h4, h5⟩, _⟩ := h
  have c1 : w.cell? ⟨ob, 1, none⟩ = some (.slice (some ⟨lg, 0, none⟩) ps.length lc) := by rw [cell_of_row w ob 1 _ _ _ h1]; rfl
  have hq := h2.2 i v hx
  rw [Int.toNat_natCast] at hq
  have HC := Lib.hid (ordAt_calls (some ⟨lg, 0, none⟩) lc qs w h4.ints (by rw [h2.1]; exact hle) v (i : Int) hq)
  rw [h2.1] at HC
  obtain ⟨n, hn⟩ : ∃ n, n = ps.length := ⟨_, rfl⟩
  rw [← hn] at c1 HC
  clear h1 h2 h3 h4 h5 hn hx hq hle
  go_enter Try.func53, Try.ntmps53
  go_wp2_with (first | (go_at_call 55; refine HC.out.mono ?_; rintro e w1 ⟨rfl, rfl⟩) | fail)
  go_ret
  exact ⟨rfl, rfl⟩

set_option maxRecDepth 100000 in
theorem stage_calls (room : Int) (a : Option Addr) (cap : Nat) (ps : List Int) (w : World) (h : IntsAt w a ps) (hp : permB ps = true) (h0 : 0 ≤ room) (h1 : room ≤ 1048576) :
    Calls Try.prog 20 #[.int .i64 room, .slice a ps.length cap] w fun e w' => ∃ sb ob F Fo, e = .returned (.tuple #[.pointer (some ⟨sb, 0, none⟩), .pointer (some ⟨ob, 0, none⟩), .bool true]) ∧ Keeps w w' ∧ StoreRep F w' sb (St.new (ps.length : Int) room) ∧ OrdRep Fo w' ob ps ∧ (∀ k, F k → ¬ Fo k) ∧ (∀ k, F k → w.heap.size ≤ k) ∧ (∀ k, Fo k → w.heap.size ≤ k) := by
  have hl := (permB_iff.1 hp).1
  have hO := fun (W : World) (hW : Keeps w W) => orderOf_calls a cap ps W (h.keeps hW) (by omega)
  have hS := fun (W : World) => store_new (ps.length : Int) room W (by omega) (by omega) h0 h1
  simp only [hp, if_true] at hO
  obtain ⟨N, hN⟩ : ∃ N, N = ps.length := ⟨_, rfl⟩
  rw [← hN] at hO hS hl ⊢
  have HO := Lib.hid hO
  have HS := Lib.hid hS
  clear hO hS h hp hN
  go_enter Try.func20, Try.ntmps20
  go_wp2_with (first | (go_at_call 30; refine (HS.out _).mono ?_; rintro e w1 ⟨sb, F, rfl, hk1, hF, hR⟩) | fail)
  refine (HO.out _ hk1).mono ?_
  rintro e w2 ⟨hk2, ob, Fo, rfl, hOR, hFo⟩
  have HR := Lib.hid hR
  have HOR := Lib.hid hOR
  clear hR hOR
  go_wp2_with fail
  refine bodyPost_ret (v := .tuple #[.pointer (some ⟨sb, 0, none⟩), .pointer (some ⟨ob, 0, none⟩), .bool true]) (by simp [results, Try.results20, go_sem]) rfl ⟨sb, ob, F, Fo, rfl, hk1.trans hk2, HR.out.keeps hk2, HOR.out, fun k hk hh => ?_, hF, fun k hk => ?_⟩
  · have := HR.out.lt k hk
    have := hFo k hh
    omega
  · have := hFo k hk
    have := hk1.size
    omega

set_option maxRecDepth 100000 in
theorem buildMay_calls {F Fo : Nat → Prop} {w : World} {sb ob : Nat} {M : St} {ps : List Int} (h : StoreRep F w sb M) (ho : OrdRep Fo w ob ps) (hn : M.n = (ps.length : Int)) (f : Int) (hf : isFormB f = true) :
    Calls Try.prog 48 #[.pointer (some ⟨sb, 0, none⟩), .pointer (some ⟨ob, 0, none⟩), .int .u8 f] w fun e w' => e = .returned (.int .u8 0) ∧ Keeps w w' := by
  have HV := Lib.hid (fun (W : World) (hW : Keeps w W) => store_vars (h.keeps hW))
  have HO := Lib.hid (fun (W : World) (hW : Keeps w W) => ordVars_calls (ho.keeps hW))
  have hif := isForm_calls f
  rw [hf] at hif
  have HI := Lib.hid hif
  rw [hn] at HV
  have hle := ho.le
  obtain ⟨N, hN⟩ : ∃ N, N = ps.length := ⟨_, rfl⟩
  rw [← hN] at HV HO hle
  clear h ho hn hif hf hN
  go_enter Try.func48, Try.ntmps48
  go_wp2_with (first | (go_at_call 36; refine (HV.out _ (by (exact kp))).mono ?_; rintro e w1 ⟨rfl, rfl⟩) | (go_at_call 66; refine (HO.out _ (by (exact kp))).mono ?_; rintro e w1 ⟨rfl, rfl⟩) | (go_at_call 77; refine (HI.out _).mono ?_; rintro e w1 ⟨rfl, rfl⟩) | fail)
  go_ret
  exact ⟨rfl, by (exact kp)⟩

def VarOut (F : Nat → Prop) (w : World) (sb : Nat) (M' : St) (x : Edge) (er : Int) (r : Ending) (w' : World) : Prop :=
  ∃ F', r = .returned (.tuple #[.agg #[.int .u8 x.tag, .int .u32 x.to], .int .u8 er]) ∧ Upd F w w' ∧ StoreRep F' w' sb M' ∧ (∀ j, F' j → F j ∨ w.heap.size ≤ j)

set_option maxRecDepth 100000 in
set_option maxHeartbeats 2000000 in
theorem buildVar_calls {F Fo : Nat → Prop} {w : World} {sb ob : Nat} {M : St} {ps : List Int} (h : StoreRep F w sb M) (ho : OrdRep Fo w ob ps) (hn : M.n = (ps.length : Int)) (f : Int) (hf : isFormB f = true) (i v : Nat) (hx : ps[i]? = some (v : Int)) (x : Edge) (er : Int) (M' : St)
    (hC : ∀ W, Keeps w W → Calls Try.prog 52 #[.pointer (some ⟨sb, 0, none⟩), .int .u8 f, .int .i64 0, .int .u16 (2 ^ i), .int .u16 0] W fun r w' => r = .returned (.tuple #[.agg #[.int .u8 x.tag, .int .u32 x.to], .int .u8 er]) ∧ Upd F W w' ∧ StoreRep (Grow F W w') w' sb M') :
    Calls Try.prog 27 #[.pointer (some ⟨sb, 0, none⟩), .pointer (some ⟨ob, 0, none⟩), .int .u8 f, .int .i64 (v : Int)] w (VarOut F w sb M' x er) := by
  have HM := Lib.hid (fun (W : World) (hW : Keeps w W) => buildMay_calls (h.keeps hW) (ho.keeps hW) hn f hf)
  have HV := Lib.hid (fun (W : World) (hW : Keeps w W) => store_vars (h.keeps hW))
  have HL := Lib.hid (fun (W : World) (hW : Keeps w W) => ordLevel_calls (ho.keeps hW) i v hx)
  have HC := Lib.hid hC
  have HLT := Lib.hid h.lt
  have hle := ho.le
  have hil := (List.getElem?_eq_some_iff.1 hx).1
  have hvr := ((permB_iff.1 ho.perm).2.1 _ (List.mem_of_getElem? hx)).2
  rw [hn] at HV
  obtain ⟨N, hN⟩ : ∃ N, N = ps.length := ⟨_, rfl⟩
  rw [← hN] at HV hle hil hvr
  have hvN : ¬ (N : Int) ≤ (v : Int) := by omega
  have hi15 : (i : Int) ≤ 15 := by omega
  have hp2 : (2 : Nat) ^ i ≤ 2 ^ 15 := Nat.pow_le_pow_right (by decide) (by omega)
  have hpc : ((2 ^ i : Nat) : Int) = 2 ^ i := by push_cast; rfl
  have e15 : (2 : Nat) ^ 15 = 32768 := rfl
  have hp3 : (0 : Int) < 2 ^ i := Int.pow_pos (by decide)
  have hp4 : (2 : Int) ^ i ≤ 32768 := by omega
  have hwr : (2 : Int) ^ i % 65536 = 2 ^ i := Int.emod_eq_of_lt (by omega) (by omega)
  clear h ho hn hf hx hC hN hp2 hpc e15
  go_enter Try.func27, Try.ntmps27
  go_wp2_with (first | (go_at_call 48; refine (HM.out _ (by (exact kp))).mono ?_; rintro e w1 ⟨rfl, hk1⟩) | (go_at_call 36; refine (HV.out _ (by (exact kp))).mono ?_; rintro e w1 ⟨rfl, rfl⟩) | (go_at_call 53; refine (HL.out _ (by (exact kp))).mono ?_; rintro e w1 ⟨rfl, rfl⟩) | fail)
  have hkw : Keeps w w1 := by (exact kp)
  have sz1 := hk1.size
  simp only [World.size_alloc] at sz1
  have r0 := hk1.cell (a := ⟨w.heap.size, 0, none⟩) (v := .int .u8 0) (by simp [go_sem])
  have r1 := hk1.cell (a := ⟨w.heap.size, 1, none⟩) (v := .int .u32 0) (by simp [go_sem])
  have rf := fun o : Nat => hk1.frz (a := ⟨w.heap.size, o, none⟩) (by simp) (by simp [go_sem])
  refine (HC.out _ hkw).mono ?_
  rintro r w3 ⟨rfl, hu, hS⟩
  have nR : ¬ F w.heap.size := fun hh => by have := HLT.out _ hh; omega
  replace r0 := hu.cellAt nR r0
  replace r1 := hu.cellAt nR r1
  replace rf := fun o : Nat => hu.frozen (a := ⟨w.heap.size, o, none⟩) (by show w.heap.size < _; omega) nR (rf o)
  have hout : ∀ w', Upd (fun j => j = w.heap.size) w3 w' → VarOut F w sb M' x er (.returned (.tuple #[.agg #[.int .u8 x.tag, .int .u32 x.to], .int .u8 er])) w' := fun w' hw' => by
    refine ⟨Grow F w1 w3, rfl, ((hkw.upd F).trans' hu).later hw' (fun i hi hh => by omega), hS.keep hw' (fun k hk hh => ?_), fun j hj => ?_⟩
    · subst hh
      rcases hk with q | q
      · exact nR q
      · omega
    · rcases hj with q | q
      · exact .inl q
      · exact .inr (by omega)
  have HOUT := Lib.hid hout
  clear hout hS hu hkw hk1
  go_wp2_with fail
  refine bodyPost_ret (v := .tuple #[.agg #[.int .u8 x.tag, .int .u32 x.to], .int .u8 er]) (by simp [results, Try.results27, go_sem, r0, r1]) rfl (HOUT.out _ ?_)
  (repeat (first | with_reducible exact Upd.refl _ _ | refine updR ?_ _ _ | with_reducible refine Upd.alloc ?_ _ | with_reducible refine Upd.drew ?_))

end Go.Proofs.Ytoeoehbpahodnaa

namespace Go.Proofs.Ytoeoehbpahodnaa
set_option linter.unusedSimpArgs false
set_option linter.unusedVariables false
set_option maxHeartbeats 600000

def Fit0 (M : St) : Prop := ∀ id r, look M.cs id = some r → 0 ≤ r.lo.to ∧ 0 ≤ r.hi.to

theorem find_fit0 {M : St} (hw : M.wf) (h : Fit0 M) {q : Rec} (hq : 0 ≤ q.lo.to ∧ 0 ≤ q.hi.to) : Fit0 (M.findSt q) := by
  unfold St.findSt
  cases M.idOf q with
  | some id => exact h
  | none =>
    simp only []
    split
    · exact h
    · split
      · exact h
      · intro id r hr
        rcases (look_put hw.gone id r).1 hr with ⟨_, rfl⟩ | hr
        · exact hq
        · exact h id r hr

theorem view_fit0 {M : St} (hw : M.wf) (h : Fit0 M) {f : Int} {e : Edge} {l : Int} (hl : M.leads f e l = true) (h0 : 0 ≤ l) (h1 : l < M.n) (he : 0 ≤ e.to) (hv : vErr M (viewAct M f e l) = 0) :
    0 ≤ (vLo M (viewAct M f e l)).to ∧ 0 ≤ (vHi M f (viewAct M f e l)).to ∧ Fit0 (vSt M (viewAct M f e l)) := by
  have hout : ∀ a, a = (.inl (vOut f l e) : (Edge × Edge × Int) ⊕ Rec) → 0 ≤ (vLo M a).to ∧ 0 ≤ (vHi M f a).to ∧ Fit0 (vSt M a) := fun a ha => by
    subst ha
    refine ⟨?_, ?_, h⟩
    · show 0 ≤ (vOut f l e).1.to
      unfold vOut
      split
      · exact he
      · split <;> exact he
    · show 0 ≤ (vOut f l e).2.1.to
      unfold vOut
      split
      · exact he
      · split <;> exact Int.le_refl _
  obtain ⟨va, hva⟩ : ∃ va, va = viewAct M f e l := ⟨_, rfl⟩
  rw [← hva] at hv ⊢
  have hva2 := hva
  unfold viewAct at hva2
  rw [if_neg (by omega), if_neg (by rw [hl]; simp)] at hva2
  split at hva2
  · rw [hva2]
    exact ⟨he, he, h⟩
  · cases hk : look M.cs e.to with
    | none =>
      rw [hk] at hva2
      exact hout va hva2
    | some r =>
      rw [hk] at hva2
      simp only [] at hva2
      obtain ⟨r1, r2⟩ := h _ _ hk
      by_cases hlt : l < r.top
      · rw [if_pos hlt] at hva2
        exact hout va hva2
      · rw [if_neg hlt] at hva2
        split at hva2
        · rw [hva2] at hv ⊢
          change M.findErr ⟨r.form, r.top + 1, r.bot, r.lo, r.hi⟩ = 0 at hv
          have hid : 0 ≤ (foundE M 0 ⟨r.form, r.top + 1, r.bot, r.lo, r.hi⟩).to := by
            rw [foundE_ok hv]
            show 0 ≤ M.findId _
            unfold St.findErr at hv
            unfold St.findId
            cases hi : M.idOf ⟨r.form, r.top + 1, r.bot, r.lo, r.hi⟩ with
            | some id => have := (look_some (idOf_look hi)).1; simp only []; omega
            | none =>
              rename_i hcc
              have g := hw.goodRec hk
              have hrf : r.form = f := (leads_some hl hk).1
              have hb : M.bad ⟨r.form, r.top + 1, r.bot, r.lo, r.hi⟩ = false := rest_good g hw.n16 (by have := (leads_some hl hk).2.1; omega) (by rw [hrf]; exact hcc.1) hcc.2
              have := (find_zero hw hb (by unfold St.findErr; rw [hi] at hv ⊢; exact hv)).2.2.2.1
              unfold St.findId at this
              rw [hi] at this
              omega
          refine ⟨hid, ?_, find_fit0 hw h ⟨r1, r2⟩⟩
          show 0 ≤ (if M.findErr _ = 0 then (if f = 4 then foundE M 0 _ else r.hi) else ⟨0, 0⟩ : Edge).to
          rw [if_pos hv]
          split
          · exact hid
          · exact r2
        · rw [hva2]
          exact ⟨r1, r2, h⟩

theorem right_table {f : Int} (hf : 1 ≤ f ∧ f ≤ 5) : ∀ (k : Nat) (l : Int) (M : St) (e : Edge), M.wf → M.room = 1048576 → M.len + ((2 ^ k : Nat) : Int) ≤ 1048576 → 0 ≤ e.to → Fit0 M → M.leads f e l = true → rightK M f e l → 0 ≤ l → l + (k : Int) = M.n →
    ∃ M', Ext M M' ∧ M'.wf ∧ M'.room = 1048576 ∧ M'.len + 1 ≤ M.len + ((2 ^ k : Nat) : Int) ∧ Fit0 M' ∧ IsT f M' k (tabE M f e l) l e := by
  intro k
  induction k with
  | zero =>
    intro l M e hw hr hlen he hfit hl hrt h0 hn
    have hn' : l = M.n := by simpa using hn
    have e0 : (M.n - l).toNat = 0 := by omega
    refine ⟨M, Ext.refl M, hw, hr, by show M.len + 1 ≤ M.len + ((1 : Nat) : Int); omega, hfit, ?_⟩
    by_cases hz : e.to = 0
    · have := (good_zero hw hf hf hl h0 hz).own hrt
      rw [e0] at this
      exact this
    · have hok : e.ok := by
        obtain ⟨hp, hr2⟩ := leads_iff.1 hl
        obtain ⟨p1, p2, p3, p4, p5, p6, p7, p8⟩ := plainB_iff.1 hp
        have ht : e.to < 2 := by
          rcases hr2 with q | ⟨r, a, b, c, d⟩
          · exact q
          · have g := hw.goodRec a
            have := g.tb
            have := g.bn
            omega
        refine ⟨?_, ⟨he, by omega⟩⟩
        by_cases h5 : f = 5
        · have := p8 h5 hz
          omega
        · have := p7 (.inl h5)
          omega
      have := (good_end hw hf hf hok hl hn' hz).own hrt
      rw [e0] at this
      exact this
  | succ k ih =>
    intro l M e hw hr hlen he hfit hl hrt h0 hn
    push_cast at hn
    have e2 : 2 ^ (k + 1) = 2 ^ k + 2 ^ k := by rw [Nat.pow_succ]; omega
    have hp : 0 < 2 ^ k := Nat.pow_pos (by decide)
    have h1 : l < M.n := by omega
    have hv0 : vErr M (viewAct M f e l) = 0 := by
      by_cases hv : vErr M (viewAct M f e l) = 0
      · exact hv
      · have := (viewed_full hw hl h1 hv).2.2
        omega
    have hv := viewed hw hl h1 hv0
    obtain ⟨hp1, hp2, hp3⟩ := view_pair hw hl h0 h1 hv0 hrt rfl rfl rfl
    obtain ⟨olo, ohi, hstep⟩ := view_fit0 hw hfit hl h0 h1 he hv0
    obtain ⟨M1, hM1⟩ : ∃ N, N = vSt M (viewAct M f e l) := ⟨_, rfl⟩
    obtain ⟨lo, hlo⟩ : ∃ N, N = vLo M (viewAct M f e l) := ⟨_, rfl⟩
    obtain ⟨hi, hhi⟩ : ∃ N, N = vHi M f (viewAct M f e l) := ⟨_, rfl⟩
    rw [← hM1, ← hlo, ← hhi] at hv hp1
    rw [← hM1, ← hlo] at hp2
    rw [← hM1, ← hhi] at hp3
    rw [← hlo] at olo
    rw [← hhi] at ohi
    rw [← hM1] at hstep
    have n1 := hv.ext.n
    obtain ⟨M2, x1, x2, x3, x4, x5, x7⟩ := ih (l + 1) M1 lo hv.wf (by rw [hv.room]; exact hr) (by have := hv.len; omega) olo hstep hv.llo hp2 (by omega) (by omega)
    have n2 := x1.n
    obtain ⟨M3, y1, y2, y3, y4, y5, y7⟩ := ih (l + 1) M2 hi x2 x3 (by have := hv.len; omega) ohi x5 (x1.leads hv.lhi) (rightK_ext x1 hv.wf hp3) (by omega) (by omega)
    refine ⟨M3, (hv.ext.trans x1).trans y1, y2, y3, by have := hv.len; omega, y5, ?_⟩
    rw [tabE_ext hv.wf x1 (Weak.of hv.lhi)] at y7
    have hk1 : (M1.n - (l + 1)).toNat = k := by omega
    have tl : (tabE M1 f lo (l + 1)).length = 2 ^ k := by rw [tabE_len, hk1]
    have tl2 : (tabE M1 f hi (l + 1)).length = 2 ^ k := by rw [tabE_len, hk1]
    rw [tab_split hv h0 h1]
    refine ⟨by rw [List.length_append, tl, tl2, e2], lo, hi, ?_, ?_, (hp1.ext x1 hf).ext y1 hf⟩
    · rw [List.take_left' tl]
      exact IsT.ext y1 hf _ _ _ _ x7
    · rw [List.drop_left' tl]
      exact y7

theorem Fit0.vast {M : St} (h : Fit0 M) : Fit0 M.vast := h

theorem right_isT {f : Int} (hf : 1 ≤ f ∧ f ≤ 5) {M : St} {e : Edge} {k : Nat} {l : Int} (hw : M.wf) (hlen : M.len + ((2 ^ k : Nat) : Int) ≤ 1048576) (he : 0 ≤ e.to) (hfit : Fit0 M) (hl : M.leads f e l = true) (hr : rightK M f e l) (h0 : 0 ≤ l) (hn : l + (k : Int) = M.n) :
    ∃ M', Ext M M' ∧ M'.wf ∧ M'.room = 1048576 ∧ M'.len + 1 ≤ M.len + ((2 ^ k : Nat) : Int) ∧ Fit0 M' ∧ IsT f M' k (tabE M f e l) l e := by
  have hE := Ext.vast M
  obtain ⟨M', x1, x2, x3, x4, x5, x6⟩ := right_table hf k l M.vast e hw.vast rfl hlen he hfit (hE.leads hl) (rightK_ext hE hw hr) h0 hn
  rw [tabE_ext hw hE (Weak.of hl)] at x6
  exact ⟨M', hE.trans x1, x2, x3, x4, x5, x6⟩

theorem StoreRep.fit0 {F : Nat → Prop} {w : World} {sb : Nat} {M : St} (h : StoreRep F w sb M) : Fit0 M := fun id r hr => by
  have := h.fit hr
  exact ⟨this.lo.2.1, this.hi.2.1⟩

end Go.Proofs.Ytoeoehbpahodnaa
