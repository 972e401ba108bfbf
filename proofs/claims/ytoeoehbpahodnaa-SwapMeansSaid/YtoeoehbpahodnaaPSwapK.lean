/-
  law26.kept.
-/
import Derived.Test.YtoeoehbpahodnaaPIsW
import Derived.Test.YtoeoehbpahodnaaPSwapC
import Derived.Test.YtoeoehbpahodnaaPSwapO
namespace Go.Proofs.Ytoeoehbpahodnaa
set_option linter.unusedSimpArgs false
set_option linter.unusedVariables false
set_option maxHeartbeats 600000
open Go.RowKit

theorem tabOf {w : World} {B : Nat} {bs : List Bool} (h : BoolsAt w B bs) : TabAt w B 0 bs := fun i b hb => by rw [Nat.zero_add]; exact h.cell hb

theorem boolsKept {w w' : World} {B : Nat} {bs : List Bool} (h : BoolsAt w B bs) (hk : Keeps w w') : BoolsAt w' B bs := h.keep (Keeps.upd hk (fun _ => False)) (fun h => h)

set_option maxRecDepth 100000 in
set_option maxHeartbeats 4000000 in
theorem kept_calls {F G Fo : Nat → Prop} {w : World} {sb mb ob : Nat} {M M' : St} {L : List (Int × Rec)} {ps qs : List Int} {ss : List Nat} {rs : List (Int × Edge)} {es : List Edge}
    (hS : StoreRep F w sb M') (hM : RefRep G w mb M L) (hO : OrdRep Fo w ob qs) (hE : Ext M M') (hsol : M'.solid) (hfew : M'.len ≤ 4000) (hn : M.n = (ps.length : Int)) (hps : permB ps = true) (hss : ∀ s ∈ ss, s + 1 < ps.length) (hqs : qs = runL ps ss)
    (aP aQ aF aE aX : Option Addr) (capP capQ capF capE capX : Nat) (hP : IntsAt w aP ps) (hQ : IntsAt w aQ qs) (hF : IsForms w aF (rs.map Prod.fst)) (hEd : EdgesAt w aE (rs.map Prod.snd)) (hX : EdgesAt w aX es) (hrl : rs.length ≤ 16) (hlead : ∀ r ∈ rs, (1 ≤ r.1 ∧ r.1 ≤ 5) ∧ M.leads r.1 r.2 0 = true) (hR : RootsOk ps.length ss M M' rs es) :
    Calls Try.prog 19 #[.pointer (some ⟨sb, 0, none⟩), .pointer (some ⟨mb, 0, none⟩), .pointer (some ⟨ob, 0, none⟩), .slice aP ps.length capP, .slice aQ qs.length capQ, .slice aF rs.length capF, .slice aE rs.length capE, .slice aX es.length capX] w fun e w' => e = .returned (.bool true) ∧ Keeps w w' := by
  have hql : qs.length = ps.length := by rw [hqs, runL_len]
  have hqp : permB qs = true := by rw [hqs]; exact runL_perm ss ps hss hps
  obtain ⟨h16, -, -⟩ := permB_iff.1 hps
  have hXl : es.length = rs.length := hR.1
  have hperm := fun (W : World) (hW : Keeps w W) => ordPerm_calls (hO.keeps hW)
  have hsame := fun (a : Option Addr) (c : Nat) (W : World) (hW : Keeps w W) (hI : IntsAt W a qs) => by
    have := refSame_calls a aQ c capQ qs qs W hI (hQ.keeps hW) (by omega) (by omega)
    rw [decide_eq_true rfl] at this
    exact this
  have hstay := fun (W : World) (hW : Keeps w W) => stays_calls (hS.keeps hW) (hM.keeps hW) hE
  have hcopy := fun (W : World) (hW : Keeps w W) => copy_calls (hS.keeps hW) hsol hfew
  -- a root's contracts
  have hld := fun (cb : Nat) (L4 : List (Int × Rec)) (G4 : Nat → Prop) (W4 : World) (h4 : RefRep G4 W4 cb M' L4) (i : Nat) (r : Int × Edge) (x : Edge) (hr : rs[i]? = some r) (hx : es[i]? = some x) (W : World) (hW : Keeps W4 W) => by
    have ro := hR.2 i r x hr hx
    have := ref_leads (h4.keeps hW) r.1 x 0 ro.ok
    rw [ro.lead] at this
    exact this
  have htc := fun (cb : Nat) (L4 : List (Int × Rec)) (G4 : Nat → Prop) (W4 : World) (h4 : RefRep G4 W4 cb M' L4) (hk4 : Keeps w W4) (i : Nat) (r : Int × Edge) (x : Edge) (hr : rs[i]? = some r) (hx : es[i]? = some x) (W : World) (hW : Keeps W4 W) => by
    have ro := hR.2 i r x hr hx
    have := table18_calls (h4.keeps hW) aQ capQ qs (hQ.keeps (hk4.trans hW)) (by rw [hE.n, hn, hql]) hqp r.1 (hlead r (List.mem_of_getElem? hr)).1 x ro.ok ro.lead
    rw [hqs, ro.tab ps rfl, ← hqs, hql] at this
    exact this
  have htm := fun (i : Nat) (r : Int × Edge) (hr : rs[i]? = some r) (W : World) (hW : Keeps w W) =>
    table18_calls (hM.keeps hW) aP capP ps (hP.keeps hW) hn hps r.1 (hlead r (List.mem_of_getElem? hr)).1 r.2 (hEd i r.2 (by rw [List.getElem?_map, hr]; rfl)).1 (hlead r (List.mem_of_getElem? hr)).2
  have htl := fun (r : Int × Edge) => tabP_len M ps r.1 r.2
  have hsm : ∀ (T : List Bool), T.length = 2 ^ ps.length → ∀ (B1 B2 : Nat) (W : World), BoolsAt W B1 T → BoolsAt W B2 T → Calls Try.prog 45 #[.slice (some ⟨B1, 0, none⟩) (2 ^ ps.length) (2 ^ ps.length), .slice (some ⟨B2, 0, none⟩) (2 ^ ps.length) (2 ^ ps.length)] W fun e w' => e = .returned (.bool true) ∧ Keeps W w' := fun T hT B1 B2 W g1 g2 => by
    have h2 : 2 ^ ps.length ≤ 2 ^ 16 := Nat.pow_le_pow_right (by decide) h16
    have e16 : (2 : Nat) ^ 16 = 65536 := rfl
    have := same_calls (2 ^ ps.length) (2 ^ ps.length) W (tabOf g1) (tabOf g2) (by omega) (by omega)
    rwa [hT, show sameL T T = true from sameL_iff.2 rfl] at this
  have hFx : ∀ (d : Nat) (r : Int × Edge), rs[d]? = some r → ∃ b off, aF = some ⟨b, off, none⟩ ∧ w.cell? ⟨b, off + d, none⟩ = some (.int .u8 r.1) := fun d r hr => hF d r.1 (by rw [List.getElem?_map, hr]; rfl)
  have hEx : ∀ (d : Nat) (r : Int × Edge), rs[d]? = some r → ∃ b off, aE = some ⟨b, off, none⟩ ∧ w.cell? ⟨b, off + d * 2, none⟩ = some (.int .u8 r.2.tag) ∧ w.cell? ⟨b, off + d * 2 + 1, none⟩ = some (.int .u32 r.2.to) := fun d r hr => (hEd d r.2 (by rw [List.getElem?_map, hr]; rfl)).2
  rw [hql] at hperm hsame
  rw [hql, hXl]
  obtain ⟨N, hN⟩ : ∃ N, N = rs.length := ⟨_, rfl⟩
  rw [← hN] at hrl hXl ⊢
  obtain ⟨n, hnn⟩ : ∃ n, n = ps.length := ⟨_, rfl⟩
  rw [← hnn] at hperm hsame htc htm hsm h16 htl ⊢
  obtain ⟨p, hp⟩ : ∃ p, p = 2 ^ n := ⟨_, rfl⟩
  rw [← hp] at htc htm hsm htl
  have HN := Lib.hid hN
  have HXl := Lib.hid hXl
  have HP := Lib.hid hperm
  have HSA := Lib.hid hsame
  have HST := Lib.hid hstay
  have HCO := Lib.hid hcopy
  have HLD := Lib.hid hld
  have HTC := Lib.hid htc
  have HTM := Lib.hid htm
  have HTL := Lib.hid htl
  have HSM := Lib.hid hsm
  have HF := Lib.hid hFx
  have HE := Lib.hid hEx
  have HX := Lib.hid hX
  clear hS hM hO hE hsol hfew hn hps hss hqs hP hQ hF hEd hX hlead hR hql hqp hXl hperm hsame hstay hcopy hld htc htm htl hsm hFx hEx hN hnn hp
  go_enter Try.func19, Try.ntmps19
  go_wp2_with (first
    | (go_at_call 17; refine (HP.out _ (by (exact kp))).mono ?_; rintro e w1 ⟨a1, c1, rfl, hr1, hk1⟩)
    | (go_at_call 16; refine (HSA.out a1 c1 _ hk1 hr1.ints).mono ?_; rintro e w2 ⟨rfl, hk2⟩; have hk12 := hk1.trans hk2)
    | (go_at_call 42; refine (HST.out _ hk12).mono ?_; rintro e w3 ⟨rfl, hk3⟩; have hk13 := hk12.trans hk3)
    | (go_at_call 43; refine (HCO.out _ hk13).mono ?_; rintro e w4 ⟨L4, G4, rfl, hk4, hR4, -⟩; have hk14 := hk13.trans hk4)
    | fail)
  obtain ⟨cb, hcb⟩ : ∃ cb, cb = w3.heap.size := ⟨_, rfl⟩
  rw [← hcb] at hR4 ⊢
  have HR4 := Lib.hid hR4
  have HK14 := Lib.hid hk14
  clear hR4 hcb hk1 hk2 hk12 hk3 hk13 hk4 hk14 hr1
  go_loopg [18] N (fun gk s18 wr => ∃ d : Nat, s18 = .int .i64 (d : Int) ∧ d + gk = N ∧ Keeps w4 wr)
  case atStart => exact ⟨0, rfl, by omega, Keeps.refl _⟩
  case round =>
    obtain ⟨d, rfl, hd, hk⟩ := hrel
    by_cases hlt : d < N
    · obtain ⟨r, hr⟩ : ∃ r, rs[d]? = some r := ⟨_, List.getElem?_eq_getElem (by rw [← HN.out]; exact hlt)⟩
      obtain ⟨x, hx⟩ : ∃ x, es[d]? = some x := ⟨_, List.getElem?_eq_getElem (by rw [HXl.out]; exact hlt)⟩
      obtain ⟨bF, oF, rfl, c0⟩ := HF.out d r hr
      obtain ⟨bE, oE, rfl, c1, c2⟩ := HE.out d r hr
      obtain ⟨_, bX, oX, rfl, c3, c4⟩ := HX.out d x hx
      have hkw := HK14.out.trans hk
      replace c0 := hkw.cell c0
      replace c1 := hkw.cell c1
      replace c2 := hkw.cell c2
      replace c3 := hkw.cell c3
      replace c4 := hkw.cell c4
      have l1 := fun (W : World) (hW : Keeps wr W) => HLD.out cb L4 G4 w4 HR4.out d r x hr hx W (hk.trans hW)
      have l2 := fun (W : World) (hW : Keeps wr W) => HTC.out cb L4 G4 w4 HR4.out HK14.out d r x hr hx W (hk.trans hW)
      have l3 := fun (W : World) (hW : Keeps wr W) => HTM.out d r hr W (hkw.trans hW)
      have l4 := HTL.out r
      obtain ⟨f, e⟩ := r
      dsimp only at l1 l2 l3 l4 c0 c1 c2
      obtain ⟨T, hT⟩ : ∃ T, T = tabP M ps f e := ⟨_, rfl⟩
      rw [← hT] at l2 l3 l4
      have l5 := HSM.out T l4
      have L1 := Lib.hid l1
      have L2 := Lib.hid l2
      have L3 := Lib.hid l3
      have L5 := Lib.hid l5
      have i0 : (0 : Int) ≤ (d : Int) := by omega
      have i1 : (d : Int) < (N : Int) := by omega
      clear hr hx l1 l2 l3 l4 l5 hT
      go_wp2_with fail
      go_region_held3 (fun w' => w'.cell? ⟨bF, oF + d, none⟩ = some (.int .u8 f) ∧ w'.cell? ⟨bE, oE + d * 2, none⟩ = some (.int .u8 e.tag) ∧ w'.cell? ⟨bE, oE + d * 2 + 1, none⟩ = some (.int .u32 e.to) ∧ w'.cell? ⟨bX, oX + d * 2, none⟩ = some (.int .u8 x.tag) ∧ w'.cell? ⟨bX, oX + d * 2 + 1, none⟩ = some (.int .u32 x.to)) (go_keep) ((first
        | (go_at_call 44; refine (L1.out _ (by (exact kp))).mono ?_; rintro e6 w6 ⟨rfl, hk6⟩; have y0 := hk6.cell (a := ⟨bF, oF + d, none⟩) (v := .int .u8 f) (by go_keep); have y1 := hk6.cell (a := ⟨bE, oE + d * 2, none⟩) (v := .int .u8 e.tag) (by go_keep); have y2 := hk6.cell (a := ⟨bE, oE + d * 2 + 1, none⟩) (v := .int .u32 e.to) (by go_keep); have y3 := hk6.cell (a := ⟨bX, oX + d * 2, none⟩) (v := .int .u8 x.tag) (by go_keep); have y4 := hk6.cell (a := ⟨bX, oX + d * 2 + 1, none⟩) (v := .int .u32 x.to) (by go_keep))
        | (go_at_call 46; first
            | (with_reducible refine (L2.out _ (by (exact kp))).mono ?_; rintro e7 w7 ⟨B1, rfl, -, hB1, hk7⟩; have y0 := hk7.cell (a := ⟨bF, oF + d, none⟩) (v := .int .u8 f) (by go_keep); have y1 := hk7.cell (a := ⟨bE, oE + d * 2, none⟩) (v := .int .u8 e.tag) (by go_keep); have y2 := hk7.cell (a := ⟨bE, oE + d * 2 + 1, none⟩) (v := .int .u32 e.to) (by go_keep); have y3 := hk7.cell (a := ⟨bX, oX + d * 2, none⟩) (v := .int .u8 x.tag) (by go_keep); have y4 := hk7.cell (a := ⟨bX, oX + d * 2 + 1, none⟩) (v := .int .u32 x.to) (by go_keep))
            | (with_reducible refine (L3.out _ (by (exact kp))).mono ?_; rintro e8 w8 ⟨B2, rfl, -, hB2, hk8⟩; have y0 := hk8.cell (a := ⟨bF, oF + d, none⟩) (v := .int .u8 f) (by go_keep); have y1 := hk8.cell (a := ⟨bE, oE + d * 2, none⟩) (v := .int .u8 e.tag) (by go_keep); have y2 := hk8.cell (a := ⟨bE, oE + d * 2 + 1, none⟩) (v := .int .u32 e.to) (by go_keep); have y3 := hk8.cell (a := ⟨bX, oX + d * 2, none⟩) (v := .int .u8 x.tag) (by go_keep); have y4 := hk8.cell (a := ⟨bX, oX + d * 2 + 1, none⟩) (v := .int .u32 x.to) (by go_keep)))
        | (go_at_call 45; refine (L5.out B1 B2 _ (boolsKept hB1 (show Keeps w7 _ by (exact kp))) (boolsKept hB2 (show Keeps w8 _ by (exact kp)))).mono ?_; rintro e9 w9 ⟨rfl, hk9⟩; have y0 := hk9.cell (a := ⟨bF, oF + d, none⟩) (v := .int .u8 f) (by go_keep); have y1 := hk9.cell (a := ⟨bE, oE + d * 2, none⟩) (v := .int .u8 e.tag) (by go_keep); have y2 := hk9.cell (a := ⟨bE, oE + d * 2 + 1, none⟩) (v := .int .u32 e.to) (by go_keep); have y3 := hk9.cell (a := ⟨bX, oX + d * 2, none⟩) (v := .int .u8 x.tag) (by go_keep); have y4 := hk9.cell (a := ⟨bX, oX + d * 2 + 1, none⟩) (v := .int .u32 x.to) (by go_keep))))
      all_goals (try go_wp2_with fail)
      all_goals go_roundg (gk - 1)
      all_goals first
        | (show gk - 1 < gk; omega)
        | exact ⟨d + 1, by simp, by omega, hk.trans (by (exact kp))⟩
    · go_wp2_with fail
      go_ret
      exact ⟨rfl, HK14.out.trans hk⟩

end Go.Proofs.Ytoeoehbpahodnaa
