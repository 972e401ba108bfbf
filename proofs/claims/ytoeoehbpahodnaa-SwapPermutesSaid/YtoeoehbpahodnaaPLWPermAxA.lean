/-
  law26.kept.
-/
import Derived.Test.YtoeoehbpahodnaaPSwapIxA
import Derived.Test.YtoeoehbpahodnaaPSwapNxA
import Derived.Test.YtoeoehbpahodnaaPSwapYxA
import Derived.Test.YtoeoehbpahodnaaRows
namespace Go.Proofs.Ytoeoehbpahodnaa
set_option linter.unusedSimpArgs false
set_option linter.unusedVariables false
set_option maxHeartbeats 600000
open Go.RowKit

theorem tabOf {w : World} {B : Nat} {bs : List Bool} (h : BoolsAt w B bs) : TabAt w B 0 bs := fun i b hb => by rw [Nat.zero_add]; exact h.cell hb

theorem boolsKept {w w' : World} {B : Nat} {bs : List Bool} (h : BoolsAt w B bs) (hk : Keeps w w') : BoolsAt w' B bs := h.keep (Keeps.upd hk (fun _ => False)) (fun h => h)

set_option maxRecDepth 100000 in
set_option maxHeartbeats 4000000 in
theorem kept_calls {F G Fo : Nat → Prop} {w : World} {sb mb ob : Nat} {M M' : St} {L : List (Int × Rec)} {ps qs : List Int} {ss : List Nat} {rs : List (Int × Edge)} {es : List Edge}
    (hS : StoreRep F w sb M') (hM : RefRep G w mb M L) (hO : OrdRep Fo w ob qs) (hE : Ext M M') (hsol : M'.solid) (hfew : M'.len ≤ 4900) (hn : M.n = (ps.length : Int)) (hps : permB ps = true) (hss : ∀ s ∈ ss, s + 1 < ps.length) (hqs : qs = runL ps ss)
    (aP aQ aF aE aX : Option Addr) (capP capQ capF capE capX : Nat) (hP : IntsAt w aP ps) (hQ : IntsAt w aQ qs) (hF : IsForms w aF (rs.map Prod.fst)) (hEd : EdgesAt w aE (rs.map Prod.snd)) (hX : EdgesAt w aX es) (hrl : rs.length ≤ 16) (hlead : ∀ r ∈ rs, (1 ≤ r.1 ∧ r.1 ≤ 5) ∧ M.leads r.1 r.2 0 = true) (hR : RootsOk ps.length ss M M' rs es) :
    Calls Try.prog 19 #[.pointer (some ⟨sb, 0, none⟩), .pointer (some ⟨mb, 0, none⟩), .pointer (some ⟨ob, 0, none⟩), .slice aP ps.length capP, .slice aQ qs.length capQ, .slice aF rs.length capF, .slice aE rs.length capE, .slice aX es.length capX] w fun e w' => e = .returned (.bool true) ∧ Keeps w w' := by
  have hql : qs.length = ps.length := by rw [hqs, runL_len]
  have hqp : permB qs = true := by rw [hqs]; exact runL_perm ss ps hss hps
  obtain ⟨h16, -, -⟩ := permB_iff.1 hps
  have hXl : es.length = rs.length := hR.1
  have hperm := fun (W : World) (hW : Keeps w W) => ordPerm_calls (hO.keeps hW)
  have hsame := fun (a : Option Addr) (c : Nat) (W : World) (hW : Keeps w W) (hI : IntsAt W a qs) => by
    have := refSame_calls a aQ c capQ qs qs W hI (hQ.keeps hW) (by omega) (by omega)
    rw [decide_eq_true rfl] at this
    exact this
  have hstay := fun (W : World) (hW : Keeps w W) => stays_calls (hS.keeps hW) (hM.keeps hW) hE
  have hcopy := fun (W : World) (hW : Keeps w W) => copy_calls (hS.keeps hW) hsol hfew
  -- a root's contracts
  have hld := fun (cb : Nat) (L4 : List (Int × Rec)) (G4 : Nat → Prop) (W4 : World) (h4 : RefRep G4 W4 cb M' L4) (i : Nat) (r : Int × Edge) (x : Edge) (hr : rs[i]? = some r) (hx : es[i]? = some x) (W : World) (hW : Keeps W4 W) => by
    have ro := hR.2 i r x hr hx
    have := ref_leads (h4.keeps hW) r.1 x 0 ro.ok
    rw [ro.lead] at this
    exact this
  have htc := fun (cb : Nat) (L4 : List (Int × Rec)) (G4 : Nat → Prop) (W4 : World) (h4 : RefRep G4 W4 cb M' L4) (hk4 : Keeps w W4) (i : Nat) (r : Int × Edge) (x : Edge) (hr : rs[i]? = some r) (hx : es[i]? = some x) (W : World) (hW : Keeps W4 W) => by
    have ro := hR.2 i r x hr hx
    have := table18_calls (h4.keeps hW) aQ capQ qs (hQ.keeps (hk4.trans hW)) (by rw [hE.n, hn, hql]) hqp r.1 (hlead r (List.mem_of_getElem? hr)).1 x ro.ok ro.lead
    rw [hqs, ro.tab ps rfl, ← hqs, hql] at this
    exact this
  have htm := fun (i : Nat) (r : Int × Edge) (hr : rs[i]? = some r) (W : World) (hW : Keeps w W) =>
    table18_calls (hM.keeps hW) aP capP ps (hP.keeps hW) hn hps r.1 (hlead r (List.mem_of_getElem? hr)).1 r.2 (hEd i r.2 (by rw [List.getElem?_map, hr]; rfl)).1 (hlead r (List.mem_of_getElem? hr)).2
  have htl := fun (r : Int × Edge) => tabP_len M ps r.1 r.2
  have hsm : ∀ (T : List Bool), T.length = 2 ^ ps.length → ∀ (B1 B2 : Nat) (W : World), BoolsAt W B1 T → BoolsAt W B2 T → Calls Try.prog 45 #[.slice (some ⟨B1, 0, none⟩) (2 ^ ps.length) (2 ^ ps.length), .slice (some ⟨B2, 0, none⟩) (2 ^ ps.length) (2 ^ ps.length)] W fun e w' => e = .returned (.bool true) ∧ Keeps W w' := fun T hT B1 B2 W g1 g2 => by
    have h2 : 2 ^ ps.length ≤ 2 ^ 16 := Nat.pow_le_pow_right (by decide) h16
    have e16 : (2 : Nat) ^ 16 = 65536 := rfl
    have := same_calls (2 ^ ps.length) (2 ^ ps.length) W (tabOf g1) (tabOf g2) (by omega) (by omega)
    rwa [hT, show sameL T T = true from sameL_iff.2 rfl] at this
  have hFx : ∀ (d : Nat) (r : Int × Edge), rs[d]? = some r → ∃ b off, aF = some ⟨b, off, none⟩ ∧ w.cell? ⟨b, off + d, none⟩ = some (.int .u8 r.1) := fun d r hr => hF d r.1 (by rw [List.getElem?_map, hr]; rfl)
  have hEx : ∀ (d : Nat) (r : Int × Edge), rs[d]? = some r → ∃ b off, aE = some ⟨b, off, none⟩ ∧ w.cell? ⟨b, off + d * 2, none⟩ = some (.int .u8 r.2.tag) ∧ w.cell? ⟨b, off + d * 2 + 1, none⟩ = some (.int .u32 r.2.to) := fun d r hr => (hEd d r.2 (by rw [List.getElem?_map, hr]; rfl)).2
  rw [hql] at hperm hsame
  rw [hql, hXl]
  obtain ⟨N, hN⟩ : ∃ N, N = rs.length := ⟨_, rfl⟩
  rw [← hN] at hrl hXl ⊢
  obtain ⟨n, hnn⟩ : ∃ n, n = ps.length := ⟨_, rfl⟩
  rw [← hnn] at hperm hsame htc htm hsm h16 htl ⊢
  obtain ⟨p, hp⟩ : ∃ p, p = 2 ^ n := ⟨_, rfl⟩
  rw [← hp] at htc htm hsm htl
  have HN := Lib.hid hN
  have HXl := Lib.hid hXl
  have HP := Lib.hid hperm
  have HSA := Lib.hid hsame
  have HST := Lib.hid hstay
  have HCO := Lib.hid hcopy
  have HLD := Lib.hid hld
  have HTC := Lib.hid htc
  have HTM := Lib.hid htm
  have HTL := Lib.hid htl
  have HSM := Lib.hid hsm
  have HF := Lib.hid hFx
  have HE := Lib.hid hEx
  have HX := Lib.hid hX
  clear hS hM hO hE hsol hfew hn hps hss hqs hP hQ hF hEd hX hlead hR hql hqp hXl hperm hsame hstay hcopy hld htc htm htl hsm hFx hEx hN hnn hp
  go_enter Try.func19, Try.ntmps19
  go_wp2_with (first
    | (go_at_call 17; refine (HP.out _ (by (exact kp))).mono ?_; rintro e w1 ⟨a1, c1, rfl, hr1, hk1⟩)
    | (go_at_call 16; refine (HSA.out a1 c1 _ hk1 hr1.ints).mono ?_; rintro e w2 ⟨rfl, hk2⟩; have hk12 := hk1.trans hk2)
    | (go_at_call 42; refine (HST.out _ hk12).mono ?_; rintro e w3 ⟨rfl, hk3⟩; have hk13 := hk12.trans hk3)
    | (go_at_call 43; refine (HCO.out _ hk13).mono ?_; rintro e w4 ⟨L4, G4, rfl, hk4, hR4, -⟩; have hk14 := hk13.trans hk4)
    | fail)
  obtain ⟨cb, hcb⟩ : ∃ cb, cb = w3.heap.size := ⟨_, rfl⟩
  rw [← hcb] at hR4 ⊢
  have HR4 := Lib.hid hR4
  have HK14 := Lib.hid hk14
  clear hR4 hcb hk1 hk2 hk12 hk3 hk13 hk4 hk14 hr1
  go_loopg [18] N (fun gk s18 wr => ∃ d : Nat, s18 = .int .i64 (d : Int) ∧ d + gk = N ∧ Keeps w4 wr)
  case atStart => exact ⟨0, rfl, by omega, Keeps.refl _⟩
  case round =>
    obtain ⟨d, rfl, hd, hk⟩ := hrel
    by_cases hlt : d < N
    · obtain ⟨r, hr⟩ : ∃ r, rs[d]? = some r := ⟨_, List.getElem?_eq_getElem (by rw [← HN.out]; exact hlt)⟩
      obtain ⟨x, hx⟩ : ∃ x, es[d]? = some x := ⟨_, List.getElem?_eq_getElem (by rw [HXl.out]; exact hlt)⟩
      obtain ⟨bF, oF, rfl, c0⟩ := HF.out d r hr
      obtain ⟨bE, oE, rfl, c1, c2⟩ := HE.out d r hr
      obtain ⟨_, bX, oX, rfl, c3, c4⟩ := HX.out d x hx
      have hkw := HK14.out.trans hk
      replace c0 := hkw.cell c0
      replace c1 := hkw.cell c1
      replace c2 := hkw.cell c2
      replace c3 := hkw.cell c3
      replace c4 := hkw.cell c4
      have l1 := fun (W : World) (hW : Keeps wr W) => HLD.out cb L4 G4 w4 HR4.out d r x hr hx W (hk.trans hW)
      have l2 := fun (W : World) (hW : Keeps wr W) => HTC.out cb L4 G4 w4 HR4.out HK14.out d r x hr hx W (hk.trans hW)
      have l3 := fun (W : World) (hW : Keeps wr W) => HTM.out d r hr W (hkw.trans hW)
      have l4 := HTL.out r
      obtain ⟨f, e⟩ := r
      dsimp only at l1 l2 l3 l4 c0 c1 c2
      obtain ⟨T, hT⟩ : ∃ T, T = tabP M ps f e := ⟨_, rfl⟩
      rw [← hT] at l2 l3 l4
      have l5 := HSM.out T l4
      have L1 := Lib.hid l1
      have L2 := Lib.hid l2
      have L3 := Lib.hid l3
      have L5 := Lib.hid l5
      have i0 : (0 : Int) ≤ (d : Int) := by omega
      have i1 : (d : Int) < (N : Int) := by omega
      clear hr hx l1 l2 l3 l4 l5 hT
      go_wp2_with fail
      go_region_held3 (fun w' => w'.cell? ⟨bF, oF + d, none⟩ = some (.int .u8 f) ∧ w'.cell? ⟨bE, oE + d * 2, none⟩ = some (.int .u8 e.tag) ∧ w'.cell? ⟨bE, oE + d * 2 + 1, none⟩ = some (.int .u32 e.to) ∧ w'.cell? ⟨bX, oX + d * 2, none⟩ = some (.int .u8 x.tag) ∧ w'.cell? ⟨bX, oX + d * 2 + 1, none⟩ = some (.int .u32 x.to)) (go_keep) ((first
        | (go_at_call 44; refine (L1.out _ (by (exact kp))).mono ?_; rintro e6 w6 ⟨rfl, hk6⟩; have y0 := hk6.cell (a := ⟨bF, oF + d, none⟩) (v := .int .u8 f) (by go_keep); have y1 := hk6.cell (a := ⟨bE, oE + d * 2, none⟩) (v := .int .u8 e.tag) (by go_keep); have y2 := hk6.cell (a := ⟨bE, oE + d * 2 + 1, none⟩) (v := .int .u32 e.to) (by go_keep); have y3 := hk6.cell (a := ⟨bX, oX + d * 2, none⟩) (v := .int .u8 x.tag) (by go_keep); have y4 := hk6.cell (a := ⟨bX, oX + d * 2 + 1, none⟩) (v := .int .u32 x.to) (by go_keep))
        | (go_at_call 46; first
            | (with_reducible refine (L2.out _ (by (exact kp))).mono ?_; rintro e7 w7 ⟨B1, rfl, -, hB1, hk7⟩; have y0 := hk7.cell (a := ⟨bF, oF + d, none⟩) (v := .int .u8 f) (by go_keep); have y1 := hk7.cell (a := ⟨bE, oE + d * 2, none⟩) (v := .int .u8 e.tag) (by go_keep); have y2 := hk7.cell (a := ⟨bE, oE + d * 2 + 1, none⟩) (v := .int .u32 e.to) (by go_keep); have y3 := hk7.cell (a := ⟨bX, oX + d * 2, none⟩) (v := .int .u8 x.tag) (by go_keep); have y4 := hk7.cell (a := ⟨bX, oX + d * 2 + 1, none⟩) (v := .int .u32 x.to) (by go_keep))
            | (with_reducible refine (L3.out _ (by (exact kp))).mono ?_; rintro e8 w8 ⟨B2, rfl, -, hB2, hk8⟩; have y0 := hk8.cell (a := ⟨bF, oF + d, none⟩) (v := .int .u8 f) (by go_keep); have y1 := hk8.cell (a := ⟨bE, oE + d * 2, none⟩) (v := .int .u8 e.tag) (by go_keep); have y2 := hk8.cell (a := ⟨bE, oE + d * 2 + 1, none⟩) (v := .int .u32 e.to) (by go_keep); have y3 := hk8.cell (a := ⟨bX, oX + d * 2, none⟩) (v := .int .u8 x.tag) (by go_keep); have y4 := hk8.cell (a := ⟨bX, oX + d * 2 + 1, none⟩) (v := .int .u32 x.to) (by go_keep)))
        | (go_at_call 45; refine (L5.out B1 B2 _ (boolsKept hB1 (show Keeps w7 _ by (exact kp))) (boolsKept hB2 (show Keeps w8 _ by (exact kp)))).mono ?_; rintro e9 w9 ⟨rfl, hk9⟩; have y0 := hk9.cell (a := ⟨bF, oF + d, none⟩) (v := .int .u8 f) (by go_keep); have y1 := hk9.cell (a := ⟨bE, oE + d * 2, none⟩) (v := .int .u8 e.tag) (by go_keep); have y2 := hk9.cell (a := ⟨bE, oE + d * 2 + 1, none⟩) (v := .int .u32 e.to) (by go_keep); have y3 := hk9.cell (a := ⟨bX, oX + d * 2, none⟩) (v := .int .u8 x.tag) (by go_keep); have y4 := hk9.cell (a := ⟨bX, oX + d * 2 + 1, none⟩) (v := .int .u32 x.to) (by go_keep))))
      all_goals (try go_wp2_with fail)
      all_goals go_roundg (gk - 1)
      all_goals first
        | (show gk - 1 < gk; omega)
        | exact ⟨d + 1, by simp, by omega, hk.trans (by (exact kp))⟩
    · go_wp2_with fail
      go_ret
      exact ⟨rfl, HK14.out.trans hk⟩

end Go.Proofs.Ytoeoehbpahodnaa

namespace Go.Proofs.Ytoeoehbpahodnaa
set_option linter.unusedSimpArgs false
set_option linter.unusedVariables false
set_option maxHeartbeats 600000
open Go.RowKit

theorem forms_at {W W' : World} {base cap N : Nat} {a : Option Addr} {rs : List (Int × Edge)} {G : Nat → Prop} (h : W.ownsRow base 60 1 (.slice a N cap) N (rs.map (fun r => Value.int .u8 r.1))) (hN : N = rs.length) (hu : Upd G W W') (hG : ∀ k, G k → k < base) : IsForms W' a (rs.map Prod.fst) := fun i f hf => by
  rw [List.getElem?_map] at hf
  cases hr : rs[i]? with
  | none => rw [hr] at hf; cases hf
  | some r =>
    rw [hr] at hf
    have hi := (List.getElem?_eq_some_iff.1 hr).1
    obtain ⟨g, rfl, _, hc⟩ := own_shape h hu hG (by omega)
    refine ⟨g, 0, rfl, ?_⟩
    rw [Nat.zero_add, hc i (by omega), List.getElem?_map, hr]
    exact congrArg (fun z => some (Value.int .u8 z)) (Option.some.inj hf)

theorem edges_at {W W' : World} {base cap N : Nat} {a : Option Addr} {rs : List (Int × Edge)} {G : Nat → Prop} (h : W.ownsRow base 63 2 (.slice a N cap) N (rs.flatMap (fun r => edgeCells r.2))) (hN : N = rs.length) (hu : Upd G W W') (hG : ∀ k, G k → k < base) (hok : ∀ r ∈ rs, (0 ≤ r.1 ∧ r.1 ≤ 255) ∧ r.2.ok) : EdgesAt W' a (rs.map Prod.snd) := fun i e he => by
  rw [List.getElem?_map] at he
  cases hr : rs[i]? with
  | none => rw [hr] at he; cases he
  | some r =>
    rw [hr] at he
    have hi := (List.getElem?_eq_some_iff.1 hr).1
    obtain ⟨g, rfl, _, hc⟩ := own_shape h hu hG (by omega)
    obtain rfl := Option.some.inj he
    refine ⟨(hok r (List.mem_of_getElem? hr)).2, g, 0, rfl, ?_, ?_⟩
    · rw [Nat.zero_add, hc (i * 2) (by omega)]
      exact flat_get (fun r : Int × Edge => edgeCells r.2) 2 (fun _ => rfl) rs i 0 r hr (by omega)
    · rw [Nat.zero_add, hc (i * 2 + 1) (by omega)]
      exact flat_get (fun r : Int × Edge => edgeCells r.2) 2 (fun _ => rfl) rs i 1 r hr (by omega)

end Go.Proofs.Ytoeoehbpahodnaa

namespace Go.Proofs.Ytoeoehbpahodnaa
set_option linter.unusedSimpArgs false
set_option linter.unusedVariables false
set_option maxHeartbeats 600000
open Go.ChangeShapes Go.WideShapes Go.ChangeAt Go.RowKit

set_option maxRecDepth 100000 in
set_option maxHeartbeats 4000000 in
theorem swapPermutes_right (n : Int) (a1 : Option Addr) (len1 cap1 : Nat) (recs : List Rec) (a2 : Option Addr) (cap2 : Nat) (ps : List Int) (a3 : Option Addr) (cap3 : Nat) (qs : List Int) (a4 : Option Addr) (cap4 : Nat) (rs : List (Int × Edge)) (w : World) (h1 : len1 ≤ 30) (h2 : 0 ≤ n) (h3 : n ≤ 5) (h4 : ps.length ≤ 16) (h4q : qs.length ≤ 16) (h5 : rs.length ≤ 3)
    (hrs : IsRecs w a1 len1 recs) (hps : IntsAt w a2 ps) (hqs : IntsAt w a3 qs) (hro : IsRoots w a4 rs) (hpb : permB ps = true) :
    Calls Try.prog 5 #[.int .i64 n, .slice a1 len1 cap1, .slice a2 ps.length cap2, .slice a3 qs.length cap3, .slice a4 rs.length cap4] w fun e w' => e = .returned (.bool true) ∧ Keeps w w' := by
  have hbu := fun (W : World) (hW : Keeps w W) => built2 n 4900 a1 len1 cap1 recs W h2 (by omega) (by omega) (by omega) (by omega) (hrs.keeps hW)
  have hof := fun (W : World) (hW : Keeps w W) => orderOf_calls a2 cap2 ps W (hps.keeps hW) (by omega)
  have hrt := fun (W : World) (hW : Keeps w W) => roots_calls a4 cap4 rs W (hro.keeps hW) (by omega)
  have hok : ∀ r ∈ rs, (0 ≤ r.1 ∧ r.1 ≤ 255) ∧ r.2.ok := fun r hr => by
    obtain ⟨k, hk⟩ := List.mem_iff_getElem?.1 hr
    exact ⟨(hro k r hk).1, (hro k r hk).2.1⟩
  obtain ⟨N, hN⟩ : ∃ N, N = rs.length := ⟨_, rfl⟩
  obtain ⟨K, hK⟩ : ∃ K, K = ps.length := ⟨_, rfl⟩
  obtain ⟨Q, hQ⟩ : ∃ Q, Q = qs.length := ⟨_, rfl⟩
  rw [← hN] at h5 hrt ⊢
  rw [← hK] at h4 hof ⊢
  rw [← hQ] at h4q ⊢
  have HBU := Lib.hid hbu
  have HOF := Lib.hid hof
  have HRT := Lib.hid hrt
  have HOK := Lib.hid hok
  have HN := Lib.hid hN
  have HK := Lib.hid hK
  have HQ := Lib.hid hQ
  have HPS := Lib.hid hps
  have HQS := Lib.hid hqs
  clear hbu hof hrt hok hN hK hQ hps hqs hro hrs
  go_enter Try.func5, Try.ntmps5
  go_wp2_with (first | (go_at_call 6; refine (l26_alive _).mono ?_; rintro e w1 ⟨rfl, hk1⟩) | fail)
  refine (HBU.out _ (by (exact kp))).mono ?_
  rintro e w2 ⟨sb, mb, M, L, rfl, hBo, hMn, hMr, hMl, hMs⟩
  have HBo := Lib.hid hBo
  have hk2 : Keeps w w2 := (show Keeps w w1 by (exact kp)).trans hBo.keep
  have HM := Lib.hid (show M.n = n ∧ M.room = 4900 ∧ M.len ≤ len1 ∧ M.solid from ⟨hMn, hMr, hMl, hMs⟩)
  clear hBo hMn hMr hMl hMs
  go_wp2_with fail
  refine (HOF.out _ hk2).mono ?_
  rintro e w3 ⟨hk3, hres⟩
  have hk23 := hk2.trans hk3
  have HK3 := Lib.hid hk3
  rw [hpb, if_pos rfl] at hres
  obtain ⟨ob, Fo, rfl, hOr, hFo⟩ := hres
  go_wp2_with fail
  refine (HRT.out _ hk23).mono ?_
  rintro e w4 ⟨v5, v6, v7, rfl, o5, o6, o7, hk4⟩
  obtain ⟨q5, c5, rfl, -⟩ := owns_slice o5
  obtain ⟨q6, c6, rfl, -⟩ := owns_slice o6
  obtain ⟨q7, c7, rfl, -⟩ := owns_slice o7
  obtain ⟨hMn, hMr, hMl, hMs⟩ := HM.out
  obtain ⟨⟨F, G, hS, hR, hD, hF, hG⟩, hkB⟩ := HBo.out
  have hk24 := HK3.out.trans hk4
  have hS4 := hS.keeps hk24
  have hR4 := hR.keeps hk24
  have hO4 := hOr.keeps hk4
  have hB4 := HBo.out.keeps hk24
  have hDo : ∀ k, F k → ¬ Fo k := fun k g1 g2 => by have := hS.lt k g1; have := hFo k g2; omega
  have hlow : ∀ k, F k ∨ Fo k → k < w3.heap.size := fun k g => by
    rcases g with g | g
    · have := hS.lt k g; have := HK3.out.size; omega
    · exact hOr.lt k g
  have hRo := fun (W : World) (hW : Upd (fun j => F j ∨ Fo j) w4 W) => roots_at o5 HN.out hW hlow HOK.out
  have hFm := fun (W : World) (hW : Upd (fun j => F j ∨ Fo j) w4 W) => forms_at o6 HN.out hW hlow
  have hEg := fun (W : World) (hW : Upd (fun j => F j ∨ Fo j) w4 W) => edges_at o7 HN.out hW hlow HOK.out
  have hcst : ∀ s : Nat, (s : Int) + 1 < M.n → costS (s : Int) 0 ≤ 62 := fun s hs => by
    have hss : s = 0 ∨ s = 1 ∨ s = 2 ∨ s = 3 := by omega
    rcases hss with rfl | rfl | rfl | rfl <;> decide
  have hIQ := fun (W : World) (hW : Upd (fun j => F j ∨ Fo j) w4 W) => (HQS.out.keeps ((hk23.trans hk4).new hW (fun k hk => by
    rcases hk with hk | hk
    · have := hF k hk; have := (show Keeps w w1 by (exact kp)).size; omega
    · have := hFo k hk; have := hk2.size; omega)))
  have hmv := permute_calls (c := 62) hS4 hO4 hDo a3 q5 cap3 c5 hIQ (by rw [← HQ.out]; omega) hRo (by rw [← HN.out]; omega) hcst (by decide) (fun g1 k g2 => by
    have e1 : ps.length ≤ 5 := by omega
    have e2 : ps.length * ps.length ≤ 5 * 5 := Nat.mul_le_mul e1 e1
    have e3 : k * rs.length ≤ 25 * 3 := Nat.mul_le_mul (by omega) (by rw [← HN.out]; omega)
    omega) (by omega)
  have hsame := fun (a : Option Addr) (c : Nat) (W : World) (hW : Keeps w4 W) (hI : IntsAt W a ps) => by
    have := refSame_calls a a2 c cap2 ps ps W hI (HPS.out.keeps ((hk23.trans hk4).trans hW)) (by rw [← HK.out]; omega) (by rw [← HK.out]; omega)
    rw [decide_eq_true rfl, ← HK.out] at this
    exact this
  have hrig := fun (W : World) (hW : Keeps w W) => refRight_calls a2 cap2 ps W (HPS.out.keeps hW) (by rw [← HK.out]; omega)
  have hriq := fun (W : World) (hW : Keeps w W) => refRight_calls a3 cap3 qs W (HQS.out.keeps hW) (by rw [← HQ.out]; omega)
  have hper := fun (W : World) (hW : Keeps w4 W) => ordPerm_calls (hO4.keeps hW)
  have hsm11 := fun (W : World) (hW : Keeps w4 W) => same_both (hB4.keeps hW)
  have hmay := fun (W : World) (hW : Keeps w4 W) => rmay26_calls (hR4.keeps hW) q6 q7 c6 c7 rs (hFm W (hW.upd _)) (hEg W (hW.upd _)) (by rw [← HN.out]; omega)
  rw [hpb] at hrig
  rw [← HK.out] at hmv hrig hper
  rw [← HQ.out] at hmv hriq
  rw [← HN.out] at hmv hmay
  have hkw : Keeps w w4 := hk23.trans hk4
  by_cases hcode : permCode M K qs rs = 0
  · have hKn : M.n = (K : Int) := by
      apply Classical.byContradiction
      intro hh
      unfold permCode at hcode
      rw [if_neg hh] at hcode
      cases hcode
    have hqq : K = qs.length ∧ permB qs = true := by
      apply Classical.byContradiction
      intro hh
      unfold permCode at hcode
      rw [if_pos hKn, if_neg hh] at hcode
      cases hcode
    have hm0 : mayL M rs = 0 := by
      unfold permCode at hcode
      rwa [if_pos hKn, if_pos hqq] at hcode
    rw [hcode] at hmv
    rw [hm0] at hmay
    rw [hqq.2] at hriq
    have hke : ∀ (r : Ending) (w5 : World) (ss : List Nat), runL ps ss = qs → (∀ s ∈ ss, s + 1 < ps.length) → AllOut F Fo w4 sb ob M ps ss rs 62 r w5 → ∃ g, r = .returned (.tuple #[.slice (some ⟨g, 0, none⟩) N N, .int .u8 0]) ∧ Keeps w w5 ∧ (∀ W, Keeps w5 W → Calls Try.prog 15 #[.pointer (some ⟨mb, 0, none⟩), .slice q6 N c6, .slice q7 N c7] W fun e w' => e = .returned (.int .i64 0) ∧ Keeps W w') ∧
        (∀ (W : World), Keeps w5 W → Calls Try.prog 19 #[.pointer (some ⟨sb, 0, none⟩), .pointer (some ⟨mb, 0, none⟩), .pointer (some ⟨ob, 0, none⟩), .slice a2 K cap2, .slice a3 Q cap3, .slice q6 N c6, .slice q7 N c7, .slice (some ⟨g, 0, none⟩) N N] W fun e w' => e = .returned (.bool true) ∧ Keeps W w') := by
      rintro r w5 ss hrun hfits ⟨g, es, M', F', rfl, hRow, hg, hRO, hS5, hF5, hgF, hO5, hU, hWt⟩
      have hkU : Keeps w w5 := hkw.new hU (fun k hk => by
        rcases hk with hk | hk
        · have := hF k hk; have := (show Keeps w w1 by (exact kp)).size; omega
        · have := hFo k hk; have := hk2.size; omega)
      have hR5 : RefRep G w5 mb M L := hR4.keep hU (fun k hk hh => by
        rcases hh with hh | hh
        · exact hD k hh hk
        · have := hFo k hh; have := hR.lt k hk; omega)
      have hXl : es.length = rs.length := hRO.1
      refine ⟨g, by rw [HN.out], hkU, fun W hW => ?_, fun W hW => ?_⟩
      · have := rmay26_calls (hR5.keeps hW) q6 q7 c6 c7 rs ((hFm w5 hU).keeps hW) ((hEg w5 hU).keeps hW) (by rw [← HN.out]; omega)
        rw [hm0, ← HN.out] at this
        exact this
      · have hfull := hWt.wf.full
        have hroom := hWt.room
        have hxok : ∀ e ∈ es, e.ok := fun e he => by
          obtain ⟨k, hk⟩ := List.mem_iff_getElem?.1 he
          have hki := (List.getElem?_eq_some_iff.1 hk).1
          exact (hRO.2 k _ e (List.getElem?_eq_getElem (by omega)) hk).ok
        rw [hrun] at hO5
        have := kept_calls (ss := ss) (qs := qs) (hS5.keeps hW) (hR5.keeps hW) (hO5.keeps hW) hWt.ext (hWt.solid hMs) (by omega) (by rw [hKn, HK.out]) hpb hfits hrun.symm a2 a3 q6 q7 (some ⟨g, 0, none⟩) cap2 cap3 c6 c7 N (HPS.out.keeps (hkU.trans hW)) (HQS.out.keeps (hkU.trans hW)) ((hFm w5 hU).keeps hW) ((hEg w5 hU).keeps hW) ((hRow.at hxok).keeps hW) (by rw [← HN.out]; omega) (mayL_zero hm0) hRO
        rw [hXl, ← HQ.out, ← HK.out, ← HN.out] at this
        exact this
    have hnk : n = (K : Int) := hMn.symm.trans hKn
    have hqk : Q = K := HQ.out.trans hqq.1.symm
    have HMV := Lib.hid hmv
    have HKE := Lib.hid hke
    have HRG := Lib.hid hrig
    have HRQ := Lib.hid hriq
    clear hke hKn hqq hm0 hcode hmv hsame hrig hriq hper hsm11 hmay hcst hRo hFm hEg hIQ hlow hDo hB4 hO4 hR4 hS4 hS hR hD hF hG hkB o5 o6 o7 hMn hMr hMl hMs HBo hOr hFo HOF HRT HBU
    subst hnk
    subst hqk
    go_wp2_with fail
    refine HMV.out.mono ?_
    rintro r w5 hh
    rcases hh with ⟨hc, _⟩ | ⟨_, ss, hrun, hfits, hh⟩
    · exact absurd rfl hc
    obtain ⟨g, rfl, hk5, hmy, hkp⟩ := HKE.out _ _ _ hrun hfits hh
    have HMY := Lib.hid hmy
    have HKP := Lib.hid hkp
    clear hh hmy hkp hrun hfits
    go_wp2_with fail
    refine (HRG.out _ hk5).mono ?_
    rintro e w6 ⟨rfl, rfl⟩
    go_wp2_with fail
    refine (HRQ.out _ hk5).mono ?_
    rintro e w7 ⟨rfl, rfl⟩
    go_wp2_with fail
    refine (HMY.out _ (Keeps.refl _)).mono ?_
    rintro e w62 ⟨rfl, hk62⟩
    go_wp2_with fail
    refine (HKP.out _ hk62).mono ?_
    rintro e w8 ⟨rfl, hk8⟩
    go_wp2_with fail
    go_ret
    exact ⟨rfl, hk5.trans (hk62.trans hk8)⟩
  · have hmv2 : ∀ W, Keeps w4 W → W = w4 → Calls Try.prog 26 #[.pointer (some ⟨sb, 0, none⟩), .pointer (some ⟨ob, 0, none⟩), .slice a3 Q cap3, .slice q5 N c5] W fun e w' => e = .returned (.tuple #[.slice none 0 0, .int .u8 (permCode M K qs rs)]) ∧ Keeps w4 w' := fun W _ hW => by
      subst hW
      refine hmv.mono fun r w' hh => ?_
      rcases hh with ⟨_, he, hk⟩ | ⟨hc, _⟩
      · exact ⟨he, hk⟩
      · exact absurd hc hcode
    have hmv3 := hmv2 w4 (Keeps.refl _) rfl
    have HRG := Lib.hid hrig
    have HPE := Lib.hid hper
    have HSA := Lib.hid hsame
    have HS1 := Lib.hid hsm11
    have hmn : M.n = n := hMn
    by_cases hKn : n = (K : Int)
    · by_cases hQn : Q = K
      · cases hqb : permB qs with
        | false =>
          have e1 : permCode M K qs rs = 1 := by unfold permCode; rw [if_pos (hmn.trans hKn), if_neg (by rw [hqb]; simp)]
          rw [e1] at hmv3
          rw [hqb] at hriq
          have HMV := Lib.hid hmv3
          have HRQ := Lib.hid hriq
          clear hmv2 hmv3 hmn hqb e1 hcode hmv hsame hrig hriq hper hsm11 hmay hcst hRo hFm hEg hIQ hlow hDo hB4 hO4 hR4 hS4 hS hR hD hF hG hkB o5 o6 o7 hMn hMr hMl hMs HBo hOr hFo HOF HRT HBU
          subst hKn
          subst hQn
          go_wp2_with fail
          refine HMV.out.mono ?_
          rintro e w5 ⟨rfl, hk5⟩
          go_wp2_with fail
          refine (HRG.out _ (hkw.trans hk5)).mono ?_
          rintro e w6 ⟨rfl, rfl⟩
          go_wp2_with fail
          refine (HRQ.out _ (hkw.trans hk5)).mono ?_
          rintro e w61 ⟨rfl, rfl⟩
          go_wp2_with fail
          refine (HPE.out _ hk5).mono ?_
          rintro e w7 ⟨a7, c7, rfl, hr7, hk7⟩
          have hk57 := hk5.trans hk7
          go_wp2_with fail
          refine (HSA.out a7 c7 _ hk57 hr7.ints).mono ?_
          rintro e w8 ⟨rfl, hk8⟩
          have hk58 := hk57.trans hk8
          go_wp2_with fail
          refine (HS1.out _ hk58).mono ?_
          rintro e w9 ⟨rfl, hk9⟩
          go_wp2_with fail
          go_ret
          exact ⟨rfl, hkw.trans (hk58.trans hk9)⟩
        | true =>
          have e1 : permCode M K qs rs = mayL M rs := by unfold permCode; rw [if_pos (hmn.trans hKn), if_pos ⟨hQn.symm.trans HQ.out, hqb⟩]
          rw [e1] at hmv3 hcode
          rw [hqb] at hriq
          have hrg := mayL_range M rs
          obtain ⟨c, hc⟩ : ∃ c, c = mayL M rs := ⟨_, rfl⟩
          rw [← hc] at hmv3 hcode hmay hrg
          have HMV := Lib.hid hmv3
          have HRQ := Lib.hid hriq
          have HMY := Lib.hid hmay
          have c0 : (c != 0) = true := by simp [hcode]
          have c1 : ¬ c = 0 := hcode
          have c2 : (c == 0) = false := by simp [hcode]
          clear hmv2 hmv3 hmn hqb e1 hcode hc hmv hsame hrig hriq hper hsm11 hmay hcst hRo hFm hEg hIQ hlow hDo hB4 hO4 hR4 hS4 hS hR hD hF hG hkB o5 o6 o7 hMn hMr hMl hMs HBo hOr hFo HOF HRT HBU
          subst hKn
          subst hQn
          go_wp2_with fail
          refine HMV.out.mono ?_
          rintro e w5 ⟨rfl, hk5⟩
          go_wp2_with fail
          refine (HRG.out _ (hkw.trans hk5)).mono ?_
          rintro e w6 ⟨rfl, rfl⟩
          go_wp2_with fail
          refine (HRQ.out _ (hkw.trans hk5)).mono ?_
          rintro e w61 ⟨rfl, rfl⟩
          go_wp2_with fail
          refine (HMY.out _ hk5).mono ?_
          rintro e w62 ⟨rfl, hk62⟩
          have hk52 := hk5.trans hk62
          go_wp2_with fail
          refine (HPE.out _ hk52).mono ?_
          rintro e w7 ⟨a7, c7, rfl, hr7, hk7⟩
          have hk57 := hk52.trans hk7
          go_wp2_with fail
          refine (HSA.out a7 c7 _ hk57 hr7.ints).mono ?_
          rintro e w8 ⟨rfl, hk8⟩
          have hk58 := hk57.trans hk8
          go_wp2_with fail
          refine (HS1.out _ hk58).mono ?_
          rintro e w9 ⟨rfl, hk9⟩
          go_wp2_with fail
          go_ret
          exact ⟨rfl, hkw.trans (hk58.trans hk9)⟩
      · have e1 : permCode M K qs rs = 1 := by unfold permCode; rw [if_pos (hmn.trans hKn), if_neg (fun hh => hQn (HQ.out.trans hh.1.symm))]
        rw [e1] at hmv3
        have HMV := Lib.hid hmv3
        clear hmv2 hmv3 hmn e1 hcode hmv hsame hrig hriq hper hsm11 hmay hcst hRo hFm hEg hIQ hlow hDo hB4 hO4 hR4 hS4 hS hR hD hF hG hkB o5 o6 o7 hMn hMr hMl hMs HBo hOr hFo HOF HRT HBU
        subst hKn
        have hQn2 : ¬ (Q : Int) = (K : Int) := by omega
        go_wp2_with fail
        refine HMV.out.mono ?_
        rintro e w5 ⟨rfl, hk5⟩
        go_wp2_with fail
        refine (HRG.out _ (hkw.trans hk5)).mono ?_
        rintro e w6 ⟨rfl, rfl⟩
        go_wp2_with fail
        refine (HPE.out _ hk5).mono ?_
        rintro e w7 ⟨a7, c7, rfl, hr7, hk7⟩
        have hk57 := hk5.trans hk7
        go_wp2_with fail
        refine (HSA.out a7 c7 _ hk57 hr7.ints).mono ?_
        rintro e w8 ⟨rfl, hk8⟩
        have hk58 := hk57.trans hk8
        go_wp2_with fail
        refine (HS1.out _ hk58).mono ?_
        rintro e w9 ⟨rfl, hk9⟩
        go_wp2_with fail
        go_ret
        exact ⟨rfl, hkw.trans (hk58.trans hk9)⟩
    · have e1 : permCode M K qs rs = 1 := by unfold permCode; rw [if_neg (by rw [hmn]; exact hKn)]
      rw [e1] at hmv3
      have HMV := Lib.hid hmv3
      clear hmv2 hmv3 hmn e1 hcode hmv hsame hrig hriq hper hsm11 hmay hcst hRo hFm hEg hIQ hlow hDo hB4 hO4 hR4 hS4 hS hR hD hF hG hkB o5 o6 o7 hMn hMr hMl hMs HBo hOr hFo HOF HRT HBU
      have hKn2 : ¬ (K : Int) = n := fun h => hKn h.symm
      clear hKn
      go_wp2_with fail
      refine HMV.out.mono ?_
      rintro e w5 ⟨rfl, hk5⟩
      go_wp2_with fail
      refine (HRG.out _ (hkw.trans hk5)).mono ?_
      rintro e w6 ⟨rfl, rfl⟩
      go_wp2_with fail
      refine (HPE.out _ hk5).mono ?_
      rintro e w7 ⟨a7, c7, rfl, hr7, hk7⟩
      have hk57 := hk5.trans hk7
      go_wp2_with fail
      refine (HSA.out a7 c7 _ hk57 hr7.ints).mono ?_
      rintro e w8 ⟨rfl, hk8⟩
      have hk58 := hk57.trans hk8
      go_wp2_with fail
      refine (HS1.out _ hk58).mono ?_
      rintro e w9 ⟨rfl, hk9⟩
      go_wp2_with fail
      go_ret
      exact ⟨rfl, hkw.trans (hk58.trans hk9)⟩

end Go.Proofs.Ytoeoehbpahodnaa

namespace Go.Proofs.Ytoeoehbpahodnaa
set_option linter.unusedSimpArgs false
set_option linter.unusedVariables false
set_option maxHeartbeats 600000
open Go.ChangeShapes Go.WideShapes Go.ChangeAt Go.RowKit

def NilOne (sp op : Option Addr) : Prop := (sp = none ∧ ∃ b, op = some ⟨b, 0, none⟩) ∨ (op = none ∧ ∃ b, sp = some ⟨b, 0, none⟩)

set_option maxRecDepth 100000 in
theorem fit_nil {sp op : Option Addr} (h : NilOne sp op) (w : World) : Calls Try.prog 35 #[.pointer sp, .pointer op] w fun e w' => e = .returned (.int .u8 2) ∧ w = w' := by
  rcases h with ⟨rfl, b, rfl⟩ | ⟨rfl, b, rfl⟩
  · go_enter Try.func35, Try.ntmps35
    go_wp2
    go_ret
    exact ⟨rfl, rfl⟩
  · go_enter Try.func35, Try.ntmps35
    go_wp2
    go_ret
    exact ⟨rfl, rfl⟩

set_option maxRecDepth 100000 in
theorem permute_nil {sp op : Option Addr} (h : NilOne sp op) (p v : Value) (w : World) : Calls Try.prog 26 #[.pointer sp, .pointer op, p, v] w fun e w' => e = .returned (.tuple #[.slice none 0 0, .int .u8 2]) ∧ Keeps w w' := by
  have HF := Lib.hid (fun (W : World) => fit_nil h W)
  clear h
  go_enter Try.func26, Try.ntmps26
  go_wp2_with (first | (go_at_call 35; refine (HF.out _).mono ?_; rintro e w1 ⟨rfl, rfl⟩) | fail)
  go_ret2
  exact ⟨rfl, by (exact kp)⟩

end Go.Proofs.Ytoeoehbpahodnaa

namespace Go.Proofs.Ytoeoehbpahodnaa
set_option linter.unusedSimpArgs false
set_option linter.unusedVariables false
set_option maxHeartbeats 600000
open Go.ChangeShapes Go.WideShapes Go.ChangeAt Go.RowKit

set_option maxRecDepth 100000 in
set_option maxHeartbeats 4000000 in
theorem swapPermutes_none (n : Int) (a1 : Option Addr) (len1 cap1 : Nat) (recs : List Rec) (a2 : Option Addr) (cap2 : Nat) (ps : List Int) (a3 : Option Addr) (cap3 : Nat) (qs : List Int) (a4 : Option Addr) (cap4 : Nat) (rs : List (Int × Edge)) (w : World) (h1 : len1 ≤ 30) (h2 : 0 ≤ n) (h3 : n ≤ 5) (h4 : ps.length ≤ 16) (h4q : qs.length ≤ 16) (h5 : rs.length ≤ 3)
    (hrs : IsRecs w a1 len1 recs) (hps : IntsAt w a2 ps) (hqs : IntsAt w a3 qs) (hro : IsRoots w a4 rs) (hpb : permB ps = false) :
    Calls Try.prog 5 #[.int .i64 n, .slice a1 len1 cap1, .slice a2 ps.length cap2, .slice a3 qs.length cap3, .slice a4 rs.length cap4] w fun e w' => e = .returned (.bool true) ∧ Keeps w w' := by
  have hbu := fun (W : World) (hW : Keeps w W) => built2 n 4900 a1 len1 cap1 recs W h2 (by omega) (by omega) (by omega) (by omega) (hrs.keeps hW)
  have hof := fun (W : World) (hW : Keeps w W) => orderOf_calls a2 cap2 ps W (hps.keeps hW) (by omega)
  have hrt := fun (W : World) (hW : Keeps w W) => roots_calls a4 cap4 rs W (hro.keeps hW) (by omega)
  have hok : ∀ r ∈ rs, (0 ≤ r.1 ∧ r.1 ≤ 255) ∧ r.2.ok := fun r hr => by
    obtain ⟨k, hk⟩ := List.mem_iff_getElem?.1 hr
    exact ⟨(hro k r hk).1, (hro k r hk).2.1⟩
  obtain ⟨N, hN⟩ : ∃ N, N = rs.length := ⟨_, rfl⟩
  obtain ⟨K, hK⟩ : ∃ K, K = ps.length := ⟨_, rfl⟩
  obtain ⟨Q, hQ⟩ : ∃ Q, Q = qs.length := ⟨_, rfl⟩
  rw [← hN] at h5 hrt ⊢
  rw [← hK] at h4 hof ⊢
  rw [← hQ] at h4q ⊢
  have HBU := Lib.hid hbu
  have HOF := Lib.hid hof
  have HRT := Lib.hid hrt
  have HOK := Lib.hid hok
  have HN := Lib.hid hN
  have HK := Lib.hid hK
  have HQ := Lib.hid hQ
  have HPS := Lib.hid hps
  have HQS := Lib.hid hqs
  clear hbu hof hrt hok hN hK hQ hps hqs hro hrs
  go_enter Try.func5, Try.ntmps5
  go_wp2_with (first | (go_at_call 6; refine (l26_alive _).mono ?_; rintro e w1 ⟨rfl, hk1⟩) | fail)
  refine (HBU.out _ (by (exact kp))).mono ?_
  rintro e w2 ⟨sb, mb, M, L, rfl, hBo, hMn, hMr, hMl, hMs⟩
  have HBo := Lib.hid hBo
  have hk2 : Keeps w w2 := (show Keeps w w1 by (exact kp)).trans hBo.keep
  have HM := Lib.hid (show M.n = n ∧ M.room = 4900 ∧ M.len ≤ len1 ∧ M.solid from ⟨hMn, hMr, hMl, hMs⟩)
  clear hBo hMn hMr hMl hMs
  go_wp2_with fail
  refine (HOF.out _ hk2).mono ?_
  rintro e w3 ⟨hk3, hres⟩
  have hk23 := hk2.trans hk3
  have HK3 := Lib.hid hk3
  rw [hpb] at hres
  simp only [Bool.false_eq_true, if_false] at hres
  subst hres
  go_wp2_with fail
  refine (HRT.out _ hk23).mono ?_
  rintro e w4 ⟨v5, v6, v7, rfl, o5, o6, o7, hk4⟩
  obtain ⟨q5, c5, rfl, -⟩ := owns_slice o5
  obtain ⟨q6, c6, rfl, -⟩ := owns_slice o6
  obtain ⟨q7, c7, rfl, -⟩ := owns_slice o7
  have hmv := permute_nil (sp := some ⟨sb, 0, none⟩) (op := none) (.inr ⟨rfl, sb, rfl⟩) (.slice a3 Q cap3) (.slice q5 N c5) w4
  have hrig := fun (W : World) (hW : Keeps w W) => refRight_calls a2 cap2 ps W (HPS.out.keeps hW) (by rw [← HK.out]; omega)
  rw [hpb] at hrig
  rw [← HK.out] at hrig
  have hkw : Keeps w w4 := hk23.trans hk4
  have HMV := Lib.hid hmv
  have HRG := Lib.hid hrig
  clear hmv hrig HBo o5 o6 o7 HOF HRT HBU HM HOK
  go_wp2_with fail
  refine HMV.out.mono ?_
  rintro e w5 ⟨rfl, hk5⟩
  go_wp2_with fail
  refine (HRG.out _ (hkw.trans hk5)).mono ?_
  rintro e w6 ⟨rfl, rfl⟩
  go_wp2_with fail
  go_ret
  exact ⟨rfl, hkw.trans hk5⟩

end Go.Proofs.Ytoeoehbpahodnaa
