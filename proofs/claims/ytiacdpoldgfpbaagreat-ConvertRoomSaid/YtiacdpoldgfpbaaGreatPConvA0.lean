/-
  convert.from at any edge; convert.may, To, Tidy.
-/
import Derived.Test.YtiacdpoldgfpbaaGreatPConvW
namespace Go.Proofs.YtiacdpoldgfpbaaGreat
set_option linter.unusedSimpArgs false
set_option linter.unusedVariables false
set_option maxHeartbeats 600000
open Go.RowKit

theorem wfrom_calls {sb wb b : Nat} {f g : Int} {n room : Int} (hf : 1 ≤ f ∧ f ≤ 5) (hg : 1 ≤ g ∧ g ≤ 5) (hroom : room < 1048576) : ∀ (K : Nat) (e : Edge) (l : Int) (F : Nat → Prop) (M : St) (V : List (Edge × Int)) (D : DataW Unit) (w : World), n - l = (K : Int) → 0 ≤ l → e.ok → M.n = n → M.room = room → M.leads f e l = true → V.Nodup → V.length + 2 ^ K ≤ 1000000 → ConvCtx F w sb wb b f g M V D →
    Calls Tryz.prog 64 #[.pointer (some ⟨wb, 0, none⟩), .agg #[.int .u8 e.tag, .int .u32 e.to, .int .i64 l]] w (FromOut F w sb wb b f g M V e l) := by
  intro K
  induction K with
  | zero =>
    intro e l F M V D w hK h0 he hn hr hl hV hcap hC
    by_cases hz : e.to = 0
    · exact wfrom_zero hC hV hf hg e l hl h0 hz
    · have : l = M.n := by omega
      subst this
      exact wfrom_end hC hV hf hg e he hl hz
  | succ K ih =>
    intro e l F M V D w hK h0 he hn hr hl hV hcap hC
    push_cast at hK
    by_cases hz : e.to = 0
    · exact wfrom_zero hC hV hf hg e l hl h0 hz
    · have e1 : (M.n - l).toNat = K + 1 := by omega
      have e2 : (M.n - (l + 1)).toNat = K := by omega
      refine wfrom_deep hC hV hf hg e l he hl h0 (by omega) hz (by omega) (by rw [e1]; exact hcap) (fun h F2 M2 V2 D2 W hh hn2 hr2 hl2 hV2 hcap2 hC2 => ?_)
      rw [e2] at hcap2
      exact ih h (l + 1) F2 M2 V2 D2 W (by omega) (by omega) hh (by omega) (by omega) hl2 hV2 hcap2 hC2

def convC (M : St) (f g : Int) (e : Edge) : Int := if isFormB f = false ∨ isFormB g = false then 4 else if M.leads f e 0 = false then 1 else 0

theorem convC_range (M : St) (f g : Int) (e : Edge) : 0 ≤ convC M f g e ∧ convC M f g e ≤ 4 := by
  unfold convC
  split
  · decide
  · split <;> decide

theorem convmay_calls {F : Nat → Prop} {w : World} {sb : Nat} {M : St} (h : StoreRep F w sb M) (f g : Int) (v : Edge) (hv : v.ok) :
    Calls Tryz.prog 63 #[.pointer (some ⟨sb, 0, none⟩), .int .u8 f, .agg #[.int .u8 v.tag, .int .u32 v.to], .int .u8 g] w fun r w' => r = .returned (.int .u8 (convC M f g v)) ∧ Keeps w w' := by
  have hld := fun (W : World) (hW : Keeps w W) => store_leads (h.keeps hW) f v 0 hv
  have hfc := isForm_calls f
  have hgc := isForm_calls g
  rcases bool_cases (isFormB f) with hb | hb
  · have e : convC M f g v = 4 := by unfold convC; rw [if_pos (.inl hb)]
    rw [e]
    rw [hb] at hfc
    have HFC := Lib.hid hfc
    clear h hld hfc hgc hb e
    go_enter Tryz.func63, Tryz.ntmps63
    go_wp2_with (first | (go_at_call 40; refine (HFC.out _).mono ?_; rintro e w' ⟨rfl, rfl⟩) | fail)
    go_ret
    exact ⟨rfl, by (exact kp)⟩
  · rw [hb] at hfc
    rcases bool_cases (isFormB g) with hb2 | hb2
    · have e : convC M f g v = 4 := by unfold convC; rw [if_pos (.inr hb2)]
      rw [e]
      rw [hb2] at hgc
      have HFC := Lib.hid hfc
      have HGC := Lib.hid hgc
      clear h hld hfc hgc hb hb2 e
      go_enter Tryz.func63, Tryz.ntmps63
      go_wp2_with fail
      refine (HFC.out _).mono ?_
      rintro e w' ⟨rfl, rfl⟩
      go_wp2_with fail
      refine (HGC.out _).mono ?_
      rintro e w' ⟨rfl, rfl⟩
      go_wp2_with fail
      go_ret
      exact ⟨rfl, by (exact kp)⟩
    · rw [hb2] at hgc
      have e : convC M f g v = if M.leads f v 0 = false then 1 else 0 := by unfold convC; rw [if_neg (by rw [hb, hb2]; simp)]
      rw [e]
      have HFC := Lib.hid hfc
      have HGC := Lib.hid hgc
      rcases bool_cases (M.leads f v 0) with hb3 | hb3
      all_goals
        rw [hb3] at hld ⊢
        have HLD := Lib.hid hld
        clear h hld hfc hgc hb hb2 e hb3
        go_enter Tryz.func63, Tryz.ntmps63
        go_wp2_with fail
        refine (HFC.out _).mono ?_
        rintro e w' ⟨rfl, rfl⟩
        go_wp2_with fail
        refine (HGC.out _).mono ?_
        rintro e w' ⟨rfl, rfl⟩
        go_wp2_with (first | (go_at_call 77; refine (HLD.out _ (by (exact kp))).mono ?_; rintro e w1 ⟨rfl, hk⟩) | fail)
        go_ret
        exact ⟨rfl, by (exact kp)⟩

theorem convC_zero {M : St} {f g : Int} {e : Edge} (h : convC M f g e = 0) : (1 ≤ f ∧ f ≤ 5) ∧ (1 ≤ g ∧ g ≤ 5) ∧ M.leads f e 0 = true := by
  unfold convC at h
  split at h
  · cases h
  · rename_i hc
    split at h
    · cases h
    · rename_i hl
      have h1 : isFormB f = true := by cases hb : isFormB f with | true => rfl | false => exact absurd (.inl hb) hc
      have h2 : isFormB g = true := by cases hb : isFormB g with | true => rfl | false => exact absurd (.inr hb) hc
      unfold isFormB at h1 h2
      exact ⟨by simpa using h1, by simpa using h2, by cases hb : M.leads f e 0 with | true => rfl | false => exact absurd hb hl⟩

def ToOut (F : Nat → Prop) (w : World) (sb : Nat) (f g : Int) (M : St) (e : Edge) (r : Ending) (w' : World) : Prop :=
  ∃ (M' : St) (V' : List (Edge × Int)) (x : Edge) (er : Int) (F' : Nat → Prop), r = .returned (.tuple #[.agg #[.int .u8 x.tag, .int .u32 x.to], .int .u8 er]) ∧ x.ok ∧ Upd F w w' ∧ (∀ j, F' j → F j ∨ w.heap.size ≤ j) ∧ StoreRep F' w' sb M' ∧
    ((convC M f g e ≠ 0 ∧ er = convC M f g e ∧ x = ⟨0, 0⟩ ∧ M' = M) ∨ (convC M f g e = 0 ∧ (er = 0 ∨ er = 6) ∧ Conv f g M [] e 0 M' V' x er))

set_option maxRecDepth 100000 in
theorem to_calls {F : Nat → Prop} {w : World} {sb : Nat} {M : St} (h : StoreRep F w sb M) (f g : Int) (v : Edge) (hv : v.ok) (hroom : M.room < 1048576) :
    Calls Tryz.prog 22 #[.pointer (some ⟨sb, 0, none⟩), .int .u8 f, .agg #[.int .u8 v.tag, .int .u32 v.to], .int .u8 g] w (ToOut F w sb f g M v) := by
  have hmay := fun (W : World) (hW : Keeps w W) => convmay_calls (h.keeps hW) f g v hv
  have hr := convC_range M f g v
  by_cases c0 : convC M f g v = 0
  · obtain ⟨hf, hg, hl⟩ := convC_zero c0
    have hn0 := h.wf.n0
    have hn16 := h.wf.n16
    rw [c0] at hmay
    have HM := Lib.hid hmay
    have H := Lib.hid h
    have HF := Lib.hid hf
    have HG := Lib.hid hg
    have HL := Lib.hid hl
    have HV := Lib.hid hv
    have HR := Lib.hid hroom
    have HC0 := Lib.hid c0
    have hmm := @run_makeMap Tryz.prog
    clear h hmay hf hg hl hv hroom c0 hr
    go_enter Tryz.func22, Tryz.ntmps22
    go_wp2_with (first | (go_at_call 63; refine (HM.out _ (by (exact kp))).mono ?_; rintro e w1 ⟨rfl, hk⟩; have z0 := hk.cell (a := ⟨w.heap.size, 0, none⟩) (v := .int .u8 v.tag) (by simp [go_sem]); have z1 := hk.cell (a := ⟨w.heap.size, 1, none⟩) (v := .int .u32 v.to) (by simp [go_sem]); have r0 := hk.cell (a := ⟨w.heap.size + 1, 0, none⟩) (v := .int .u8 0) (by simp [go_sem]); have r1 := hk.cell (a := ⟨w.heap.size + 1, 1, none⟩) (v := .int .u32 0) (by simp [go_sem]); have rf := fun o : Nat => hk.frz (a := ⟨w.heap.size + 1, o, none⟩) (by simp) (by simp [go_sem]); have hsz := hk.size; simp only [World.size_alloc] at hsz; have l0 : w.heap.size < w1.heap.size := (by omega); have l1 : w.heap.size + 1 < w1.heap.size := (by omega); have hk1 : Keeps w w1 := (by (exact kp))) | fail)
    have hk2 : Keeps w1 ((w1.alloc (.map #[] 0)).alloc (.cells #[.pointer (some ⟨sb, 0, none⟩), .int .u8 f, .int .u8 g, .map (some w1.heap.size)] 94)) := ((Keeps.refl _).alloc _).alloc _
    have hctx : ConvCtx F ((w1.alloc (.map #[] 0)).alloc (.cells #[.pointer (some ⟨sb, 0, none⟩), .int .u8 f, .int .u8 g, .map (some w1.heap.size)] 94)) sb (w1.heap.size + 1) w1.heap.size f g M [] (.map []) := by
      have nF : ∀ j, w.heap.size ≤ j → ¬ F j := fun j hj hh => by have := H.out.lt _ hh; omega
      refine ⟨H.out.keeps (hk1.trans hk2), by simp [go_sem], by simp [go_sem], by simp [go_sem], by simp [go_sem], nF _ (by omega), nF _ (by omega), ?_, MemoOk.empty f g M⟩
      exact ownsMap_same (World.ownsMap_made w1 Tryz.prog 97 edgeElem) (((Keeps.refl (w1.alloc (.map #[] 0))).alloc _).block w1.heap.size (by simp))
    have hcall := wfrom_calls (n := M.n) (room := M.room) HF.out HG.out HR.out M.n.toNat v 0 F M [] (.map []) _ (by omega) (Int.le_refl _) HV.out rfl rfl HL.out List.nodup_nil (by
      have : 2 ^ M.n.toNat ≤ 2 ^ 16 := Nat.pow_le_pow_right (by decide) (by omega)
      have e16 : (2 : Nat) ^ 16 = 65536 := rfl
      simp
      omega) hctx
    have HCALL := Lib.hid hcall
    have r0 := hk2.cell r0
    have r1 := hk2.cell r1
    have rf := fun o : Nat => hk2.frz (a := ⟨w.heap.size + 1, o, none⟩) l1 (rf o)
    clear hctx hcall
    refine HCALL.out.mono ?_
    rintro r w3 ⟨M', V', x, er, F', rfl, hc, hx, her, hu, hF', hS, _⟩
    have nR : ¬ (F (w.heap.size + 1) ∨ w.heap.size + 1 = w1.heap.size) := fun hh => by
      rcases hh with hh | hh
      · have := H.out.lt _ hh; omega
      · omega
    have q0 := hu.cellAt nR r0
    have q1 := hu.cellAt nR r1
    have qf := fun o : Nat => hu.frozen (a := ⟨w.heap.size + 1, o, none⟩) (by show w.heap.size + 1 < _; simp; omega) nR (rf o)
    have hsub : ∀ j, F' j → F j ∨ w.heap.size ≤ j := fun j hj => by
      rcases hF' j hj with q | q
      · exact .inl q
      · simp at q
        exact .inr (by omega)
    have hus : Upd F w w3 := (Keeps.upd (hk1.trans hk2) F).later hu (fun i hi hh => by
      rcases hh with hh | hh
      · exact hh
      · omega)
    have nFR : ¬ F' (w.heap.size + 1) := fun hh => by
      rcases hF' _ hh with q | q
      · exact nR (.inl q)
      · simp at q
        omega
    have hout : ∀ w', Upd (fun j => j = w.heap.size + 1) w3 w' → ToOut F w sb f g M v (.returned (.tuple #[.agg #[.int .u8 x.tag, .int .u32 x.to], .int .u8 er])) w' := fun w' hw' =>
      ⟨M', V', x, er, F', rfl, hx, hus.later hw' (fun i hi hh => by omega), hsub, hS.keep hw' (fun k hk hh => by subst hh; exact nFR hk), .inr ⟨HC0.out, her, hc⟩⟩
    have HOUT := Lib.hid hout
    clear hout hus hsub nFR hS hF' hu hc hx her r0 r1 rf
    go_wp2_with fail
    refine bodyPost_ret (v := .tuple #[.agg #[.int .u8 x.tag, .int .u32 x.to], .int .u8 er]) (by simp [results, Tryz.results22, go_sem, q0, q1]) rfl (HOUT.out _ ?_)
    (repeat (first | with_reducible exact Upd.refl _ _ | refine updR ?_ _ _ | with_reducible refine Upd.alloc ?_ _ | with_reducible refine Upd.drew ?_))
  · obtain ⟨c, hc⟩ : ∃ c, c = convC M f g v := ⟨_, rfl⟩
    have hout := fun (w' : World) (hk : Keeps w w') => (⟨M, [], ⟨0, 0⟩, c, F, rfl, edge0_ok, Keeps.upd hk F, fun j hj => .inl hj, h.keeps hk, .inl ⟨c0, hc, rfl, rfl⟩⟩ : ToOut F w sb f g M v (.returned (.tuple #[.agg #[.int .u8 (⟨0, 0⟩ : Edge).tag, .int .u32 (⟨0, 0⟩ : Edge).to], .int .u8 c])) w')
    rw [← hc] at hmay hr c0
    have HM := Lib.hid hmay
    have HOUT := Lib.hid hout
    have g0 : (c != 0) = true := by simp [c0]
    clear h hmay hout hc
    go_enter Tryz.func22, Tryz.ntmps22
    go_wp2_with (first | (go_at_call 63; refine (HM.out _ (by (exact kp))).mono ?_; rintro e w1 ⟨rfl, hk⟩; have r0 := hk.cell (a := ⟨w.heap.size + 1, 0, none⟩) (v := .int .u8 0) (by simp [go_sem]); have r1 := hk.cell (a := ⟨w.heap.size + 1, 1, none⟩) (v := .int .u32 0) (by simp [go_sem]); have rf := fun o : Nat => hk.frz (a := ⟨w.heap.size + 1, o, none⟩) (by simp) (by simp [go_sem])) | fail)
    refine bodyPost_ret (v := .tuple #[.agg #[.int .u8 (⟨0, 0⟩ : Edge).tag, .int .u32 (⟨0, 0⟩ : Edge).to], .int .u8 c]) (by simp [results, Tryz.results22, go_sem, r0, r1]) rfl (HOUT.out _ (by (exact kp)))

end Go.Proofs.YtiacdpoldgfpbaaGreat

namespace Go.Proofs.YtiacdpoldgfpbaaGreat
set_option linter.unusedSimpArgs false
set_option linter.unusedVariables false
set_option maxHeartbeats 600000
open Go.RowKit

theorem all_true {M : St} (hw : M.wf) {x : Edge} (hn : M.n = 2) (h : IsT 4 M 2 [true, true, true, true] 0 x) : look M.cs x.to = some ⟨4, 0, 1, ⟨0, 1⟩, ⟨0, 1⟩⟩ := by
  obtain ⟨_, lo, hi, h1, h2, hp⟩ := h
  have h1 : IsT 4 M 1 [true, true] (0 + 1) lo := h1
  have h2 : IsT 4 M 1 [true, true] (0 + 1) hi := h2
  have he : lo = hi := IsT.det hw _ _ _ _ _ h1 h2
  subst he
  obtain ⟨_, a, b, ha, hb, hq⟩ := h1
  have ha : ∃ t, [true] = [t] ∧ a = endE 4 t (0 + 1 + 1) := ha
  have hb : ∃ t, [true] = [t] ∧ b = endE 4 t (0 + 1 + 1) := hb
  obtain ⟨t, ht, rfl⟩ := ha
  obtain ⟨s, hs, rfl⟩ := hb
  cases ht
  cases hs
  have e1 : endE 4 true (0 + 1 + 1) = ⟨0, 1⟩ := rfl
  rw [e1] at hq
  have k1 : look M.cs lo.to = some ⟨4, 1, 1, ⟨0, 1⟩, ⟨0, 1⟩⟩ := by
    have hu := hq.up
    rw [mkK4] at hu
    unfold makeAct qRest at hu
    rw [if_neg (by omega), if_neg (by have := hq.lo; rw [this]; simp), if_neg (by show ¬ (1 : Int) = 0; decide), look_low (show (1 : Int) < 2 by decide)] at hu
    rcases hu with hu | ⟨r, hu, hl, _⟩
    · cases hu
    · cases hu
      exact hl
  have hu := hp.up
  rw [mkK4] at hu
  unfold makeAct qRest at hu
  have hz := (look_some k1).1
  rw [if_neg (by omega), if_neg (by have := hp.lo; rw [this]; simp), if_neg (by omega), k1] at hu
  simp only [if_true] at hu
  rw [if_pos (by rfl)] at hu
  rcases hu with hu | ⟨r, hu, hl, _⟩
  · cases hu
  · cases hu
    exact hl

end Go.Proofs.YtiacdpoldgfpbaaGreat

namespace Go.Proofs.YtiacdpoldgfpbaaGreat
set_option linter.unusedSimpArgs false
set_option linter.unusedVariables false
set_option maxHeartbeats 600000
open Go.RowKit

theorem Conv.room0 {f g : Int} {M M' : St} {V V' : List (Edge × Int)} {e x : Edge} {l er : Int} (h : Conv f g M V e l M' V' x er) (hr : M.len + 2 * ((2 ^ (M.n - l).toNat - 1 : Nat) : Int) < M.room) : er = 0 := by
  by_cases he : er = 0
  · exact he
  · exfalso
    obtain ⟨_, _, h3⟩ := h.full he
    have h1 := h.len
    have h2 := h.few
    have h4 := h.room
    omega

set_option maxRecDepth 100000 in
set_option maxHeartbeats 1000000 in
theorem l25_alive (w : World) : Calls Tryz.prog 18 #[] w fun e w' => e = .returned (.bool true) ∧ Keeps w w' := by
  go_enter Tryz.func18, Tryz.ntmps18
  go_wp2_with fail
  refine (store_new 2 20 _ (by decide) (by decide) (by decide) (by decide)).mono ?_
  rintro e w1 ⟨sb, F, rfl, hk, hF, hS⟩
  have hone : (⟨0, 1⟩ : Edge).ok := ⟨by decide, by decide⟩
  have hto := fun (W : World) (hW : Keeps w1 W) => to_calls (hS.keeps hW) 1 4 ⟨0, 1⟩ hone (by show (20 : Int) < 1048576; decide)
  have HS := Lib.hid hS
  have HF := Lib.hid hF
  have HK := Lib.hid hk
  have HTO := Lib.hid hto
  clear hS hF hk hto hone
  go_wp2_with fail
  refine (HTO.out _ ((Keeps.refl _).alloc _)).mono ?_
  rintro r w2 ⟨M', V', x, er, F', rfl, hx, hu, hF', hS', hc⟩
  have c0 : convC (St.new 2 20) 1 4 ⟨0, 1⟩ = 0 := rfl
  rcases hc with ⟨hc, _⟩ | ⟨_, _, hc⟩
  · exact absurd c0 hc
  · have her : er = 0 := hc.room0 (by decide)
    subst her
    have hgood := hc.good rfl
    have hn : M'.n = 2 := hc.ext.n
    have ht : tabE M' 1 ⟨0, 1⟩ 0 = [true, true, true, true] := by
      rw [tabE_ext HS.out.wf hc.ext (Weak.of (rfl : (St.new 2 20).leads 1 ⟨0, 1⟩ 0 = true))]
      rfl
    have hit := hgood.isT
    rw [ht, hn] at hit
    have hlook := all_true hc.wf hn hit
    have hget := fun (W : World) (hW : Keeps w2 W) => store_get (hS'.keeps hW) x.to hx.2.2
    rw [hlook] at hget
    have HGET := Lib.hid hget
    have hkw : Keeps w w2 := (HK.out.alloc (.cells #[.int .u8 0, .int .u32 1] 31)).new hu (fun j hj => HF.out j hj)
    have HKW := Lib.hid hkw
    have nb : ¬ F w1.heap.size := fun hh => by have := HS.out.lt _ hh; omega
    have b0 := hu.cellAt (b := w1.heap.size) (o := 0) (v := .int .u8 0) nb (by simp [go_sem])
    have b1 := hu.cellAt (b := w1.heap.size) (o := 1) (v := .int .u32 1) nb (by simp [go_sem])
    have hsz := hu.size
    simp only [World.size_alloc] at hsz
    have l1 : w1.heap.size < w2.heap.size := by omega
    clear hgood ht hit hlook hget hkw hc hS' hF' hx hu c0 hn
    go_wp2_with (first | (go_at_call 37; refine (HGET.out _ (by (exact kp))).mono ?_; rintro e w3 ⟨rfl, hk3⟩; have hk4 : Keeps w2 w3 := (by (exact kp)); have d0 := hk4.cell b0; have d1 := hk4.cell b1; have l2 : w1.heap.size < w3.heap.size := (by have := hk4.size; omega)) | fail)
    go_ret
    exact ⟨rfl, by have hkw := HKW.out; (exact kp)⟩

end Go.Proofs.YtiacdpoldgfpbaaGreat
