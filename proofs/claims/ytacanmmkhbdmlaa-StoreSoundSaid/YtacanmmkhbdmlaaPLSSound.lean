/-
  Proved: the statement StoreSound, for every input.
-/
import Derived.Test.YtacanmmkhbdmlaaPIds06
import Derived.Test.YtacanmmkhbdmlaaPLawBase
import Derived.Test.YtacanmmkhbdmlaaPLeads
import Derived.Test.YtacanmmkhbdmlaaPOpens2
import Derived.Test.YtacanmmkhbdmlaaPSSweep
import Derived.Test.YtacanmmkhbdmlaaPSame06
import Derived.Test.YtacanmmkhbdmlaaPSoundP
import Derived.Test.YtacanmmkhbdmlaaRows
namespace Go.Proofs.Ytacanmmkhbdmlaa
set_option linter.unusedSimpArgs false
set_option linter.unusedVariables false
set_option maxHeartbeats 600000
open Go.ChangeShapes Go.WideShapes Go.ChangeAt Go.RowKit


theorem IdRow.upd {F : Nat → Prop} {w W : World} {v : Value} {ids : List Int} (h : IdRow w v ids) (hu : Upd F w W) (hg : ∀ g, v.ownBlock = some g → ¬ F g) : IdRow W v ids := by
  obtain ⟨a, cap, rfl, h2⟩ := h
  refine ⟨a, cap, rfl, fun i x hx => ?_⟩
  obtain ⟨g, rfl, h4⟩ := h2 i x hx
  exact ⟨g, rfl, hu.cellAt (hg g rfl) h4⟩

/-- A store and a row of ids beside it. -/
structure RowBy (w0 w : World) (sb : Nat) (M : St) (v : Value) (ids : List Int) : Prop where
  ex : ∃ F, StoreRep F w sb M ∧ (∀ k, F k → w0.heap.size ≤ k) ∧ (∀ g, v.ownBlock = some g → ids ≠ [] → ¬ F g)
  row : IdRow w v ids
  keep : Keeps w0 w

theorem IdRow.lt {w : World} {v : Value} {ids : List Int} (h : IdRow w v ids) {g : Nat} (hg : v.ownBlock = some g) (hne : ids ≠ []) : g < w.heap.size := by
  obtain ⟨a, cap, rfl, h2⟩ := h
  cases ids with
  | nil => exact absurd rfl hne
  | cons x t =>
    obtain ⟨g', rfl, h4⟩ := h2 0 x rfl
    simp [Value.ownBlock] at hg
    subst hg
    exact lt_of_cell h4

theorem IdRow.updNe {F : Nat → Prop} {w W : World} {v : Value} {ids : List Int} (h : IdRow w v ids) (hu : Upd F w W) (hg : ∀ g, v.ownBlock = some g → ids ≠ [] → ¬ F g) : IdRow W v ids := by
  obtain ⟨a, cap, rfl, h2⟩ := h
  refine ⟨a, cap, rfl, fun i x hx => ?_⟩
  obtain ⟨g, rfl, h4⟩ := h2 i x hx
  exact ⟨g, rfl, hu.cellAt (hg g rfl (fun e => by rw [e] at hx; simp at hx)) h4⟩

theorem RowBy.keeps {w0 w W : World} {sb : Nat} {M : St} {v : Value} {ids : List Int} (h : RowBy w0 w sb M v ids) (hk : Keeps w W) : RowBy w0 W sb M v ids := by
  obtain ⟨⟨F, h1, h2, h3⟩, h4, h5⟩ := h
  exact ⟨⟨F, h1.keeps hk, h2, h3⟩, h4.keeps hk, h5.trans hk⟩

theorem RowBy.step {F : Nat → Prop} {w0 w W : World} {sb : Nat} {M' : St} {v : Value} {ids : List Int} (h2 : ∀ k, F k → w0.heap.size ≤ k) (h3 : ∀ g, v.ownBlock = some g → ids ≠ [] → ¬ F g) (h4 : IdRow w v ids) (h5 : Keeps w0 w)
    (hu : Upd F w W) (hS : StoreRep (Grow F w W) W sb M') : RowBy w0 W sb M' v ids := by
  refine ⟨⟨_, hS, fun k hk' => ?_, fun g hg hne hf => ?_⟩, h4.updNe hu h3, h5.new hu h2⟩
  · have := h5.size
    rcases hk' with h | h
    · exact h2 k h
    · omega
  · have := h4.lt hg hne
    rcases hf with h | h
    · exact h3 g hg hne h
    · omega

set_option maxRecDepth 100000 in
theorem storeSound_out (n : Int) (a : Option Addr) (len cap : Nat) (a2 : Option Addr) (len2 cap2 : Nat) (a3 : Option Addr) (len3 cap3 : Nat) (w : World) (h : 60 < len ∨ 60 < len3 ∨ 20 < len2 ∨ n < 0 ∨ 16 < n) :
    Calls Try.prog 12 #[.int .i64 n, .slice a len cap, .slice a2 len2 cap2, .slice a3 len3 cap3] w fun e w' => e = .returned (.bool true) ∧ Keeps w w' := by
  have H := Lib.hid h
  clear h
  go_enter Try.func12, Try.ntmps12
  go_wp2_with (first | (go_at_call 22; refine (s_alive _).mono ?_; rintro e w1 ⟨rfl, hk⟩) | fail)
  all_goals first | (go_ret; exact ⟨rfl, by (repeat (first | with_reducible exact Keeps.refl _ | with_reducible assumption | with_reducible refine Keeps.alloc ?_ _ | with_reducible refine Keeps.drewN ?_ _ | with_reducible refine Keeps.drew ?_ | refine Keeps.setCell ?_ (by dsimp only; omega) _ | with_reducible refine Keeps.trans ?_ (by assumption)))⟩) | (exfalso; have := H.out; omega)

/-- The seven cells of the d-th record. -/
theorem rec_at {w : World} {a : Option Addr} {len : Nat} {rs : List Rec} (h : IsRecs w a len rs) {d : Nat} (hlt : d < len) :
    ∃ (r : Rec) (b off : Nat), a = some ⟨b, off, none⟩ ∧ r.ok ∧ w.cell? ⟨b, off + d * 7, none⟩ = some (.int .u8 r.form) ∧ w.cell? ⟨b, off + d * 7 + 1, none⟩ = some (.int .u8 r.top) ∧ w.cell? ⟨b, off + d * 7 + 2, none⟩ = some (.int .u8 r.bot) ∧
      w.cell? ⟨b, off + d * 7 + 3, none⟩ = some (.int .u8 r.lo.tag) ∧ w.cell? ⟨b, off + d * 7 + 4, none⟩ = some (.int .u32 r.lo.to) ∧ w.cell? ⟨b, off + d * 7 + 5, none⟩ = some (.int .u8 r.hi.tag) ∧ w.cell? ⟨b, off + d * 7 + 6, none⟩ = some (.int .u32 r.hi.to) := by
  obtain ⟨r, hr⟩ : ∃ r, rs[d]? = some r := ⟨_, List.getElem?_eq_getElem (by rw [h.1]; exact hlt)⟩
  obtain ⟨hok, b, off, rfl, hc⟩ := h.2 d r hr
  exact ⟨r, b, off, rfl, hok, (hc 0 (by omega)).trans rfl, (hc 1 (by omega)).trans rfl, (hc 2 (by omega)).trans rfl, (hc 3 (by omega)).trans rfl, (hc 4 (by omega)).trans rfl, (hc 5 (by omega)).trans rfl, (hc 6 (by omega)).trans rfl⟩

set_option maxRecDepth 100000 in
set_option maxHeartbeats 2000000 in
theorem storeSound_in (n : Int) (a : Option Addr) (len cap : Nat) (rs : List Rec) (a2 : Option Addr) (len2 cap2 : Nat) (es : List Edge) (a3 : Option Addr) (len3 cap3 : Nat) (rs3 : List Rec) (w : World) (h1 : len ≤ 60) (h2 : len3 ≤ 60) (h3 : len2 ≤ 20) (h4 : 0 ≤ n) (h5 : n ≤ 16)
    (hrs : IsRecs w a len rs) (hes : IsEdges w a2 len2 es) (hrs3 : IsRecs w a3 len3 rs3) :
    Calls Try.prog 12 #[.int .i64 n, .slice a len cap, .slice a2 len2 cap2, .slice a3 len3 cap3] w fun e w' => e = .returned (.bool true) ∧ Keeps w w' := by
  have HR := Lib.hid hrs
  have HE := Lib.hid hes
  have HR3 := Lib.hid hrs3
  clear hrs hes hrs3
  go_enter Try.func12, Try.ntmps12
  go_wp2_with (first | (go_at_call 22; refine (s_alive _).mono ?_; rintro e w1 ⟨rfl, hk⟩) | fail)
  refine (store_new n 80 _ h4 h5 (by omega) (by omega)).mono ?_
  rintro e w2 ⟨sb, F, rfl, hk2, hF, hS⟩
  have hB0 : Alone w w2 sb (St.new n 80) := ⟨⟨F, hS, fun k hk' => Nat.le_trans hk.size (hF k hk')⟩, hk.trans hk2⟩
  have HB0 := Lib.hid hB0
  clear hB0 hS hF hk hk2
  go_wp2_with fail
  go_loopg [11] len (fun gk i wr => ∃ (d : Nat) (M : St), d + gk = len ∧ i = .int .i64 (d : Int) ∧ Alone w wr sb M ∧ M.n = n ∧ M.room = 80)
  case atStart => exact ⟨0, _, by omega, rfl, HB0.out, rfl, rfl⟩
  case round =>
    obtain ⟨d, M, hd, rfl, hB, hMn, hMr⟩ := hrel
    have HB := Lib.hid hB
    have hK := hB.keep
    have HMn := Lib.hid hMn
    have HMr := Lib.hid hMr
    clear hB hMn hMr
    by_cases hlt : d < len
    · obtain ⟨r, b, off, rfl, hok, s0, s1, s2, s3, s4, s5, s6⟩ := rec_at HR.out hlt
      have s0 := hK.cell s0
      have s1 := hK.cell s1
      have s2 := hK.cell s2
      have s3 := hK.cell s3
      have s4 := hK.cell s4
      have s5 := hK.cell s5
      have s6 := hK.cell s6
      obtain ⟨⟨F, q1, q2⟩, q3⟩ := HB.out
      have Q1 := Lib.hid q1
      have Q2 := Lib.hid q2
      have Q3 := Lib.hid q3
      clear q1 q2 q3
      go_wp2_with fail
      refine (store_find Q1.out r hok).mono ?_
      rintro e w3 ⟨rfl, hu, hS⟩
      have HA := Lib.hid (Alone.step Q3.out Q2.out hu hS)
      clear hu hS
      go_wp2
      go_roundg (gk - 1)
      case rel => exact ⟨d + 1, _, by omega, by simp, HA.out, by rw [findSt_n]; exact HMn.out, by rw [findSt_room]; exact HMr.out⟩
      case measure => omega
    · obtain ⟨⟨F, q1, q2⟩, q3⟩ := HB.out
      obtain ⟨keep, hkeep⟩ : ∃ keep, keep = reachL M.cs (es.map Edge.to) := ⟨_, rfl⟩
      obtain ⟨m, hm⟩ : ∃ m, m = M.len := ⟨_, rfl⟩
      have hm0 : 0 ≤ m := by rw [hm]; exact q1.wf.len0
      have hm1 : m ≤ 80 := by rw [hm, ← HMr.out]; exact q1.wf.full
      have hpl := part_len M (es.map Edge.to)
      have hil := ids_len q1
      rw [← hkeep] at hpl
      rw [← hm] at hil
      have hkl : keep.length ≤ 80 := by omega
      have hgl : ((goneL M (es.map Edge.to)).length : Int) = m - (keep.length : Int) := by omega
      have hsl : (sweepSt M (es.map Edge.to)).len = (keep.length : Int) := by rw [sweep_len, ← hm]; omega
      have his : idsL (sweepSt M (es.map Edge.to)).cs = keep := by rw [ids_sweep, hkeep]
      have hew : IsEdges wr a2 len2 es := HE.out.keeps q3
      have HEW := Lib.hid hew
      have HC := reach_calls2 q1 a2 len2 cap2 es hew (by omega)
      rw [← hkeep] at HC
      have HC := Lib.hid HC
      have Q1 := Lib.hid q1
      have Q2 := Lib.hid q2
      have Q3 := Lib.hid q3
      have HSL := Lib.hid hsl
      have HGL := Lib.hid hgl
      have HIS := Lib.hid his
      have HM := Lib.hid hm
      clear q1 q2 q3 hew hsl hgl his hpl hil hkeep hm
      go_wp2_with fail
      refine HC.out.mono ?_
      rintro e w3 ⟨v, rfl, ⟨ka, kcap, rfl, hrow⟩, hk3, hfr⟩
      have hlen := store_len (Q1.out.keeps hk3)
      rw [← HM.out] at hlen
      have HLEN := Lib.hid hlen
      have hsw := store_sweep (Q1.out.keeps hk3) a2 len2 cap2 es (HEW.out.keeps hk3) (by omega)
      rw [HGL.out] at hsw
      have HSW := Lib.hid hsw
      have hrow3 : IdRow w3 (.slice ka keep.length kcap) keep := ⟨ka, kcap, rfl, hrow⟩
      have HROW3 := Lib.hid hrow3
      have HFR := Lib.hid hfr
      have HK3 := Lib.hid hk3
      clear hlen hsw hrow3 hrow hfr hk3
      go_wp2_with (first | (go_at_call 20; refine HLEN.out.mono ?_; rintro e w' ⟨rfl, rfl⟩) | fail)
      refine HSW.out.mono ?_
      rintro e w4 ⟨rfl, hu, hS4⟩
      have hrow4 := HROW3.out.upd hu (fun g hg hf => by
        have := HFR.out g hg
        have := Q1.out.lt g hf
        omega)
      have hA4 := Alone.step (Q3.out.trans HK3.out) Q2.out hu hS4
      have hlen4 := store_len hS4
      rw [HSL.out] at hlen4
      have HLEN4 := Lib.hid hlen4
      have HROW4 := Lib.hid hrow4
      have HA4 := Lib.hid hA4
      have HI4 := Lib.hid (store_ids hS4)
      clear hu hS4 hrow4 hA4 hlen4
      go_wp2_with (first
        | (go_at_call 20; refine HLEN4.out.mono ?_; rintro e w' ⟨rfl, rfl⟩)
        | (go_at_call 51; refine HI4.out.mono ?_; rintro e w5 ⟨bx, rfl, hk5, hit⟩; have hcol := collect_ids2 200 hit (Keeps.refl _) (by rw [HIS.out]; omega) (by omega); rw [HIS.out] at hcol)
        | (go_at_call 50; refine hcol.mono ?_; rintro e w6 ⟨u3, rfl, r3, hk6, _⟩; have hr4 := (HROW4.out.keeps hk5).keeps hk6)
        | (go_at_call 47; refine (same06_row r3 hr4 (by omega) (by omega)).mono ?_; rintro e w7 ⟨rfl, hk7⟩; rw [sameI_iff.2 rfl])
        | fail)
      have HA7 := Lib.hid (HA4.out.keeps ((hk5.trans hk6).trans hk7))
      clear hk5 hk6 hk7 hit hcol r3 hr4
      have HMn1 : Hid ((sweepSt M (es.map Edge.to)).n = n) := Lib.hid HMn.out
      have HMr1 : Hid ((sweepSt M (es.map Edge.to)).room = 80) := Lib.hid HMr.out
      obtain ⟨M1, hM1⟩ : ∃ M1, M1 = sweepSt M (es.map Edge.to) := ⟨_, rfl⟩
      rw [← hM1] at HA7 HMn1 HMr1
      clear hM1 HA4 HLEN4 HI4 HROW4 HSW HLEN HC HSL HGL HIS HFR
      obtain ⟨W6, rfl⟩ : ∃ W6, W6 = wr := ⟨wr, rfl⟩
      obtain ⟨g0, hg0⟩ : ∃ g0, g0 = gk := ⟨gk, rfl⟩
      obtain ⟨d0, hd0⟩ : ∃ d0, d0 = d := ⟨d, rfl⟩
      go_loopg [15] len3 (fun gk i wr => ∃ (d : Nat) (M : St), d + gk = len3 ∧ i = .int .i64 (d : Int) ∧ Alone w wr sb M ∧ M.n = n ∧ M.room = 80)
      case atStart => exact ⟨0, _, by omega, rfl, HA7.out, HMn1.out, HMr1.out⟩
      case round =>
        obtain ⟨d, M, hd, rfl, hB, hMn, hMr⟩ := hrel
        have HB := Lib.hid hB
        have hK := hB.keep
        have HMn := Lib.hid hMn
        have HMr := Lib.hid hMr
        clear hB hMn hMr
        by_cases hlt : d < len3
        · obtain ⟨r, b, off, rfl, hok, s0, s1, s2, s3, s4, s5, s6⟩ := rec_at HR3.out hlt
          have s0 := hK.cell s0
          have s1 := hK.cell s1
          have s2 := hK.cell s2
          have s3 := hK.cell s3
          have s4 := hK.cell s4
          have s5 := hK.cell s5
          have s6 := hK.cell s6
          obtain ⟨⟨F, q1, q2⟩, q3⟩ := HB.out
          have Q1 := Lib.hid q1
          have Q2 := Lib.hid q2
          have Q3 := Lib.hid q3
          clear q1 q2 q3
          go_wp2_with fail
          refine (store_find Q1.out r hok).mono ?_
          rintro e w3 ⟨rfl, hu, hS⟩
          have HA := Lib.hid (Alone.step Q3.out Q2.out hu hS)
          clear hu hS
          go_wp2
          go_roundg (gk - 1)
          case rel => exact ⟨d + 1, _, by omega, by simp, HA.out, by rw [findSt_n]; exact HMn.out, by rw [findSt_room]; exact HMr.out⟩
          case measure => omega
        · obtain ⟨⟨F, q1, q2⟩, q3⟩ := HB.out
          obtain ⟨ids, hids⟩ : ∃ ids, ids = idsL M.cs := ⟨_, rfl⟩
          have hil := ids_len q1
          have hm1 : M.len ≤ 80 := by have := q1.wf.full; rw [HMr.out] at this; exact this
          rw [← hids] at hil
          have hidl : ids.length ≤ 80 := by omega
          have HI := Lib.hid (store_ids q1)
          have HIDS := Lib.hid hids
          have Q1 := Lib.hid q1
          have Q2 := Lib.hid q2
          have Q3 := Lib.hid q3
          have HIL := Lib.hid hil
          clear q1 q2 q3 hil hids hm1
          go_wp2_with (first
            | (go_at_call 51; refine HI.out.mono ?_; rintro e w5 ⟨bx, rfl, hk5, hit⟩; have hcol := collect_ids2 200 hit (Keeps.refl _) (by rw [← HIDS.out]; omega) (by omega); rw [← HIDS.out] at hcol)
            | (go_at_call 50; refine hcol.mono ?_; rintro e w6 ⟨u3, rfl, ⟨ia, icap, rfl, hrow⟩, hk6, hfr⟩)
            | fail)
          have hrb : RowBy w w6 sb M (.slice ia ids.length icap) ids := ⟨⟨F, (Q1.out.keeps hk5).keeps hk6, Q2.out, fun g hg _ hf => by
            have := hfr g hg
            have := hk5.size
            have := Q1.out.lt g hf
            omega⟩, ⟨ia, icap, rfl, hrow⟩, (Q3.out.trans hk5).trans hk6⟩
          have HRB := Lib.hid hrb
          clear hk5 hk6 hit hcol hrow hfr hrb
          obtain ⟨W7, rfl⟩ : ∃ W7, W7 = wr := ⟨wr, rfl⟩
          obtain ⟨g1, hg1⟩ : ∃ g1, g1 = gk := ⟨gk, rfl⟩
          go_loopg [17] ids.length (fun gk i wr => ∃ d : Nat, d + gk = ids.length ∧ i = .int .i64 (d : Int) ∧ RowBy w wr sb M (.slice ia ids.length icap) ids)
          case atStart => exact ⟨0, by omega, rfl, HRB.out⟩
          case round =>
            obtain ⟨j, hj, rfl, hB⟩ := hrel
            obtain ⟨⟨F2, p1, p2, p3⟩, p4, p5⟩ := hB
            by_cases hlt : j < ids.length
            · obtain ⟨id, hid⟩ : ∃ id, ids[j]? = some id := ⟨_, List.getElem?_eq_getElem hlt⟩
              obtain ⟨r, hl⟩ : ∃ r, look M.cs id = some r := by
                have hm : id ∈ idsL M.cs := by rw [← HIDS.out]; exact List.mem_of_getElem? hid
                cases hl : look M.cs id with
                | none => exact absurd hl (idsL_mem.1 hm)
                | some r => exact ⟨r, rfl⟩
              have hrok := p1.fit hl
              obtain ⟨g, hgia, hgc⟩ : ∃ g, ia = some ⟨g, 0, none⟩ ∧ wr.cell? ⟨g, j, none⟩ = some (.int .u32 id) := by
                obtain ⟨a', cap', e0, q⟩ := p4
                cases e0
                exact q j id hid
              subst hgia
              obtain ⟨f1, f2, f3, f4⟩ := findSt_same p1.once hl
              obtain ⟨l1, l2⟩ := leads_good p1.wf hl
              have hidr := (look_some hl).2.1
              have hfew : M.cs.length ≤ 1048576 := by obtain ⟨⟨_, _, _, _, _, _, q2, _⟩, _⟩ := p1; exact q2.few
              have HGET := fun (W : World) (hW : Keeps wr W) => store_get (p1.keeps hW) id (by omega)
              have HHAS := fun (W : World) (hW : Keeps wr W) => store_has (p1.keeps hW) r hrok
              have HFIN := fun (W : World) (hW : Keeps wr W) => store_find (p1.keeps hW) r hrok
              rw [f1] at HHAS
              rw [f2, f3, f4] at HFIN
              rw [hl] at HGET
              simp only [grec, gsome, Option.getD_some, Option.isSome_some] at HGET HHAS
              have HGET := Lib.hid HGET
              have HHAS := Lib.hid HHAS
              have HFIN := Lib.hid HFIN
              have L1 := Lib.hid l1
              have L2 := Lib.hid l2
              have ROK := Lib.hid hrok
              have P1 := Lib.hid p1
              have P2 := Lib.hid p2
              have P3 := Lib.hid p3
              have P4 := Lib.hid p4
              have P5 := Lib.hid p5
              have hb0 := hrok.bot.1
              have hb1 := hrok.bot.2
              have hgw : g < wr.heap.size := lt_of_cell hgc
              clear p1 p2 p3 p4 p5 f1 f2 f3 f4 l1 l2 hl hid hidr hrok
              go_wp2_with fail
              refine (HGET.out _ (Keeps.refl _)).mono ?_
              rintro e w8 ⟨rfl, hk8⟩
              have gc8 := hk8.cell hgc
              have hz8 := hk8.size
              have HK8 := Lib.hid hk8
              clear hk8 hgc
              go_wp2_with fail
              refine (HHAS.out _ (by have hk8 := HK8.out; (repeat (first | with_reducible exact Keeps.refl _ | with_reducible assumption | with_reducible refine Keeps.alloc ?_ _ | with_reducible refine Keeps.drewN ?_ _ | with_reducible refine Keeps.drew ?_ | refine Keeps.setCell ?_ (by dsimp only; omega) _ | with_reducible refine Keeps.trans ?_ (by assumption))))).mono ?_
              rintro e w9 ⟨rfl, hk9⟩
              obtain ⟨b0, b1, b2, b3, b4, b5, b6⟩ := box7 hk9
              have hk89 : Keeps w8 w9 := ((Keeps.refl _).alloc _).trans hk9
              have gc9 := hk89.cell gc8
              have hz9 := hk89.size
              have hlt9 : w8.heap.size < w9.heap.size := lt_of_cell b0
              have HKR9 := Lib.hid (HK8.out.trans hk89)
              clear hk9 hk89 gc8
              go_wp2_with fail
              refine (HFIN.out _ HKR9.out).mono ?_
              rintro e w10 ⟨rfl, hu, hS10⟩
              have nF : ¬ F2 w8.heap.size := fun hf => by have := P1.out.lt _ hf; omega
              have nG : ¬ F2 g := P3.out g rfl (fun e => by rw [e] at hlt; simp at hlt)
              have c0 := hu.cellAt nF b0
              have c1 := hu.cellAt nF b1
              have c2 := hu.cellAt nF b2
              have c3 := hu.cellAt nF b3
              have c4 := hu.cellAt nF b4
              have c5 := hu.cellAt nF b5
              have c6 := hu.cellAt nF b6
              have gc10 := hu.cellAt nG gc9
              have hz10 := hu.size
              have hlt10 : w8.heap.size < w10.heap.size := by omega
              have hg10 : g < w10.heap.size := by omega
              have HRB := Lib.hid (RowBy.step P2.out P3.out (P4.out.keeps HKR9.out) (P5.out.trans HKR9.out) hu hS10)
              have hl1 := fun (W : World) (hW : Keeps w10 W) => store_leads (hS10.keeps hW) r.form r.lo (r.bot + 1) ROK.out.lo
              have hl2 := fun (W : World) (hW : Keeps w10 W) => store_leads (hS10.keeps hW) r.form r.hi (r.bot + 1) ROK.out.hi
              rw [L1.out] at hl1
              rw [L2.out] at hl2
              have HL1 := Lib.hid hl1
              have HL2 := Lib.hid hl2
              clear b0 b1 b2 b3 b4 b5 b6 gc9 hu hS10 nF nG hl1 hl2
              go_wp2_with fail
              refine (HL1.out _ (Keeps.refl _)).mono ?_
              rintro e w11 ⟨rfl, hk11⟩
              have d0 := hk11.cell c0
              have d5 := hk11.cell c5
              have d6 := hk11.cell c6
              have HK11 := Lib.hid hk11
              clear hk11 c0 c1 c2 c3 c4 c5 c6
              go_wp2_with fail
              refine (HL2.out _ HK11.out).mono ?_
              rintro e w12 ⟨rfl, hk12⟩
              have HRB12 := Lib.hid ((HRB.out.keeps HK11.out).keeps hk12)
              clear hk12
              go_wp2
              go_roundg (gk - 1)
              case rel => exact ⟨j + 1, by omega, by simp, HRB12.out⟩
              case measure => omega
            · have hall : (ids.length : Int) = M.len := HIL.out
              have hlen := store_len p1
              rw [← hall] at hlen
              have HLN := Lib.hid hlen
              have P5 := Lib.hid p5
              clear p1 p2 p3 p4 p5 hlen hall
              go_wp2_with (first
                | (go_at_call 20; refine HLN.out.mono ?_; rintro e w8 ⟨rfl, rfl⟩)
                | fail)
              go_ret
              exact ⟨rfl, P5.out⟩

theorem storeSound_walk (n : Int) (a : Option Addr) (len cap : Nat) (rs : List Rec) (a2 : Option Addr) (len2 cap2 : Nat) (es : List Edge) (a3 : Option Addr) (len3 cap3 : Nat) (rs3 : List Rec) (w : World) (_ : (Lit.int .i64 n).wf = true)
    (hrs : IsRecs w a len rs) (hes : IsEdges w a2 len2 es) (hrs3 : IsRecs w a3 len3 rs3) :
    Calls Try.prog 12 #[.int .i64 n, .slice a len cap, .slice a2 len2 cap2, .slice a3 len3 cap3] w fun e w' => e = .returned (.bool true) ∧ Keeps w w' := by
  by_cases h : 60 < len ∨ 60 < len3 ∨ 20 < len2 ∨ n < 0 ∨ 16 < n
  · exact storeSound_out n a len cap a2 len2 cap2 a3 len3 cap3 w h
  · exact storeSound_in n a len cap rs a2 len2 cap2 es a3 len3 cap3 rs3 w (by omega) (by omega) (by omega) (by omega) (by omega) hrs hes hrs3

set_option maxRecDepth 100000 in
theorem storeSound_lifted (os : Os) (started : os.Started) (H : Type) (enc : TypeId × Value → H) :
    ReturnsInHanded {} Try.checked os 12 .any (Rows.storeSoundSpec.pre6 enc Try.prog Try.f12 Rows.storeSoundRow.domain false) (Rows.storeSoundSpec.post enc Try.prog Try.f12 false true false false) := by
  refine returnsInHanded_of_change (C := Try.checked) own started (by kernel_rfl) Try.func12
    (ChangeSpec.witness6 (enc := enc) (C := Try.checked) false ⟨#[], #[.int .i64 0, .slice none 0 0, .slice none 0 0, .slice none 0 0], []⟩ 12 (by kernel_rfl) (by kernel_rfl) (by kernel_rfl) (by kernel_rfl)) ?_
  intro W base args ds gs before hval0 hW hcnd _
  have hval : ∀ (j : Nat) t v, Try.f12.params[j]? = some t → args[j]? = some v → Value.okWide Try.prog W .any base t v := hval0
  have hW' := hW
  obtain ⟨p, q, hA0, hV, rfl, hfz, hnd⟩ := hW
  have hA : DataW.TrodAll enc Try.prog W 0 (fun _ => true) true Try.f12.params.toList args.toList ds p := hA0
  rw [Try.params12] at hA hval
  have hAk := hA
  obtain ⟨v0, vs0, d0, ds0, p0, q0, hargs, rfl, rfl, h0, r0⟩ := trodAll_cons hA
  obtain ⟨v1, vs1, d1, ds1, p1, q1, rfl, rfl, rfl, h1, r1⟩ := trodAll_cons r0
  obtain ⟨v2, vs2, d2, ds2, p2, q2, rfl, rfl, rfl, h2, r2⟩ := trodAll_cons r1
  obtain ⟨v3, vs3, d3, ds3, p3, q3, rfl, rfl, rfl, h3, r3⟩ := trodAll_cons r2
  obtain ⟨rfl, rfl, rfl⟩ := trodAll_nil r3
  obtain rfl : args = #[v0, v1, v2, v3] := by cases args; simp_all
  obtain ⟨rfl, rfl⟩ := trodVars_none hV
  obtain ⟨a0, rfl, rfl, rfl, w0⟩ := open_int Try.underlying3 (hval 0 3 v0 rfl rfl) h0
  obtain ⟨a1, len1, cap1, rfl⟩ := okWide_slice Try.underlying64 (hval 1 64 v1 rfl rfl)
  obtain ⟨rs1, w1⟩ := open_recs h1
  obtain ⟨a2, len2, cap2, rfl⟩ := okWide_slice Try.underlying56 (hval 2 56 v2 rfl rfl)
  obtain ⟨rs2, w2⟩ := open_edges h2
  obtain ⟨a3, len3, cap3, rfl⟩ := okWide_slice Try.underlying64 (hval 3 64 v3 rfl rfl)
  obtain ⟨rs3, w3⟩ := open_recs h3
  clear hA0 hval0
  refine (storeSound_walk a0 a1 len1 cap1 rs1 a2 len2 cap2 rs2 a3 len3 cap3 rs3 W w0 w1 w2 w3).mono fun e W' ⟨he, bel⟩ => ?_
  subst he
  exact ⟨_, rfl, _, _, _, [], _, [], hW', trodAll_mk1 (shut_bool Try.underlying4 _), trodAll_below laidOut bel _ _ _ _ (by kernel_rfl) hAk, rfl, Below.frame bel _, fun h => by cases h⟩

theorem storeSound_over : Rows.storeSoundRow.holds Try.pinned (OpenSpec.ofChange Rows.storeSoundSpec) :=
  OpenClaim.holds_of_wide 12 Try.f12 rfl rfl rfl rfl rfl rfl rfl ⟨rfl, rfl, rfl, rfl, rfl⟩ rfl rfl rfl rfl rfl (by kernel_rfl) Try.func12 (by kernel_rfl)
    (of_decide_eq_true (by kernel_rfl)) (by unfold Func.isWrapper; first | (rw [if_pos (by decide +kernel)]; kernel_rfl) | (rw [if_neg (by decide +kernel)]; exact ⟨rfl, rfl⟩))
    (fun os started H enc _ => storeSound_lifted os started H enc)

theorem storeSound_proved : Rows.StoreSoundSaid := storeSound_over

end Go.Proofs.Ytacanmmkhbdmlaa
