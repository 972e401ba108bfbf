/-
  Proved: the statement SwapTwice, for every input.
-/
import Derived.Test.YtoeoehbpahodnaaPLWTwiceOxB
namespace Go.Proofs.Ytoeoehbpahodnaa
set_option linter.unusedSimpArgs false
set_option linter.unusedVariables false
set_option maxHeartbeats 600000
open Go.ChangeShapes Go.WideShapes Go.ChangeAt Go.RowKit

set_option maxRecDepth 100000 in
set_option maxHeartbeats 8000000 in
theorem swapTwice_in (a1 : Option Addr) (cap : Nat) (ps : List Int) (lv fr tq : Nat) (a : Int) (w : World) (hps : IntsAt w a1 ps) (h2 : 2 ≤ ps.length) (h5 : ps.length ≤ 5) (hp : permB ps = true) (hlv : lv + 1 < ps.length) (hfr : fr < ps.length) (hto : tq < ps.length) (ha : 0 ≤ a) (ha2 : a ≤ 18446744073709551615) :
    Calls Try.prog 4 #[.slice a1 ps.length cap, .int .i64 (lv : Int), .int .i64 (fr : Int), .int .i64 (tq : Int), .int .u64 a] w fun e w' => e = .returned (.bool true) ∧ Keeps w w' := by
  have hrg := fun (W : World) (hW : Keeps w W) => refRight_calls a1 cap ps W (hps.keeps hW) (by omega)
  have hst := fun (W : World) (hW : Keeps w W) => stage_calls 30000 a1 cap ps W (hps.keeps hW) hp (by omega) (by omega)
  have hbi := fun (W : World) => bits_calls ps.length (by omega) a ha ha2 W
  have hmv := fun (W : World) (hW : Keeps w W) => moved_calls a1 cap ps W (hps.keeps hW) (by omega) fr tq hfr hto
  have hsm := fun (x : Option Addr) (c : Nat) (W : World) (hW : Keeps w W) (hI : IntsAt W x ps) => by
    have := refSame_calls x a1 c cap ps ps W hI (hps.keeps hW) (by omega) (by omega)
    rw [decide_eq_true rfl] at this
    exact this
  have hin := fun (x y : Option Addr) (c d : Nat) (qs : List Int) (hq : qs.length = ps.length) (W : World) (h1 : IntsAt W x qs) (h2 : IntsAt W y qs) => by
    have := ints_calls x y c d qs qs W h1 h2 (by omega) (by omega)
    rw [decide_eq_true rfl, hq] at this
    exact this
  rw [hp] at hrg
  obtain ⟨K, hK⟩ : ∃ K, K = ps.length := ⟨_, rfl⟩
  obtain ⟨p, hpp⟩ : ∃ p, p = 2 ^ K := ⟨_, rfl⟩
  have hp32 : p ≤ 32 := by
    have h1 : 2 ^ K ≤ 2 ^ 5 := Nat.pow_le_pow_right (by decide) (by omega)
    have e5 : (2 : Nat) ^ 5 = 32 := rfl
    omega
  have hp1 : 1 ≤ p := by rw [hpp]; exact Nat.pow_pos (by decide)
  rw [← hK] at hrg hbi hmv hsm hin hst h2 h5 hlv hfr hto ⊢
  rw [← hpp] at hbi
  have HRG := Lib.hid hrg
  have HST := Lib.hid hst
  have HBI := Lib.hid hbi
  have HMV := Lib.hid hmv
  have HSM := Lib.hid hsm
  have HIN := Lib.hid hin
  have HK := Lib.hid hK
  have HPP := Lib.hid hpp
  have HP := Lib.hid hp
  clear hrg hst hbi hmv hsm hin hK hpp hp hps
  go_enter Try.func4, Try.ntmps4
  go_wp2_with (first | (go_at_call 6; refine (l26_alive _).mono ?_; rintro e w1 ⟨rfl, hk1⟩) | (go_at_call 14; refine (HRG.out _ (by (exact kp))).mono ?_; rintro e w2 ⟨rfl, rfl⟩) | fail)
  refine (HST.out _ (by (exact kp))).mono ?_
  rintro e w3 ⟨sb, ob, F, Fo, rfl, hk3, hS, hO, hdis, hF, hFo⟩
  have hk13 : Keeps w w3 := (show Keeps w w1 by (exact kp)).trans hk3
  have HS := Lib.hid hS
  have HO := Lib.hid hO
  have HDS := Lib.hid hdis
  have HLO := Lib.hid (show ∀ k, F k ∨ Fo k → w.heap.size ≤ k from fun k hk => by
    have := (show Keeps w w1 by (exact kp)).size
    rcases hk with hk | hk
    · have := hF k hk; omega
    · have := hFo k hk; omega)
  clear hS hO hdis hF hFo hk3
  go_wp2_with fail
  refine (HBI.out _).mono ?_
  rintro e w4 ⟨bs, hbl, rfl, hB, hk4⟩
  have hof := setOf_calls (K : Int) w3.heap.size p bs w4 hB (by omega) (by omega)
  rw [hbl] at hof
  have HOF := Lib.hid hof
  have HBL := Lib.hid hbl
  clear hbl hB hof
  go_wp2_with fail
  refine HOF.out.mono ?_
  rintro e w5 ⟨g, hg, rfl, hU, hk5⟩
  have HU := Lib.hid hU
  have HG := Lib.hid hg
  clear hU hg
  go_wp2_with fail
  obtain ⟨W6, hW6⟩ : ∃ W6, W6 = w5.alloc (.cells #[.int .i64 (K : Int), .slice (some ⟨g, 0, none⟩) (wordsL bs).length (wordsL bs).length] 56) := ⟨_, rfl⟩
  rw [← hW6]
  have k56 : Keeps w5 W6 := by rw [hW6]; exact (Keeps.refl _).alloc _
  have hb0 : W6.cell? ⟨w5.heap.size, 0, none⟩ = some (.int .i64 (K : Int)) := by rw [hW6]; simp [go_sem]
  have hb1 : W6.cell? ⟨w5.heap.size, 1, none⟩ = some (.slice (some ⟨g, 0, none⟩) (wordsL bs).length (wordsL bs).length) := by rw [hW6]; simp [go_sem]
  have hk36 : Keeps w3 W6 := (hk4.trans hk5).trans k56
  have hsit : Sit F Fo W6 sb ob (St.new (K : Int) 30000) ps := ⟨HS.out.keeps hk36, HO.out.keeps hk36, HDS.out, by show (K : Int) = _; rw [HK.out], by show (30000 : Int) < 1048576; decide⟩
  have hlow : ∀ k, F k ∨ Fo k → k < w3.heap.size := fun k hk => by
    rcases hk with hk | hk
    · exact HS.out.lt k hk
    · exact HO.out.lt k hk
  have hs34 := hk4.size
  have hs45 := hk5.size
  have hs56 := k56.size
  have hgl : g < w5.heap.size := HU.out.lt
  have hgw := HG.out
  have hok : setOkB (K : Int) (wordsL bs) = true := setOkB_words (by omega) (by rw [HBL.out, HPP.out])
  have hwl : (wordsL bs).length ≤ 1048576 := by rw [wordsL_len, HBL.out]; omega
  have hrow : BuiltRows F Fo W6 W6 sb ob ps (hasB (wordsL bs)) 30000 1 (St.new (K : Int) 30000) F [] (.slice none 0 0) := ⟨hsit, fun j hj => .inl hj, Upd.refl _ _, rfl, by show (0 : Int) ≤ _; simp, World.ownsRow_nil _ _ _ _, fun k hk => by simp [Value.ownBlock] at hk, rfl, fun i r hr => by simp at hr⟩
  have HROW := Lib.hid hrow
  have HLOW := Lib.hid hlow
  have HOK := Lib.hid hok
  have hkw6 : Keeps w W6 := hk13.trans hk36
  have HU6 := Lib.hid (HU.out.keeps k56)
  obtain ⟨wl, hwle⟩ : ∃ wl, wl = (wordsL bs).length := ⟨_, rfl⟩
  rw [← hwle] at hb1 hwl
  have HWL := Lib.hid hwle
  clear hW6 hrow hlow hok hsit hwle
  obtain ⟨i5, hi5, hz50, hz51, hz52⟩ := info_parts info_root
  go_loopg [16, 17, 18, 19] 5 (fun gk s16 s17 s18 s19 wr => ∃ (f : Nat) (M : St) (G : Nat → Prop) (rs : List (Int × Edge)) (v : Value), f + gk = 6 ∧ 1 ≤ f ∧ s17 = .int .u8 (f : Int) ∧ s16 = v ∧ BuiltRows F Fo W6 wr sb ob ps (hasB (wordsL bs)) 30000 f M G rs v)
  case atStart => exact ⟨1, _, _, _, _, rfl, by omega, rfl, rfl, HROW.out⟩
  case round =>
    obtain ⟨f, M, G, rs, v, hfg, hf1, rfl, rfl, hrow⟩ := hrel
    obtain ⟨a5, cap5, rfl, -⟩ := owns_slice hrow.own
    have HR := Lib.hid hrow
    clear hrow
    by_cases hf : f ≤ 5
    · have hT := HR.out.upd
      have hnF : ¬ F w5.heap.size := fun hh => by have := HLOW.out _ (.inl hh); omega
      have hnG : ¬ F g := fun hh => by have := HLOW.out _ (.inl hh); omega
      have hnGg : ∀ b off, (some ⟨g, 0, none⟩ : Option Addr) = some ⟨b, off, none⟩ → ¬ G b := fun b off e hh => by
        cases e
        rcases HR.out.sub _ hh with q | q
        · exact hnG q
        · omega
      have c0 := hT.cellAt hnF hb0
      have c1 := hT.cellAt hnF hb1
      have hwd : WordsAt wr (some ⟨g, 0, none⟩) (wordsL bs) := (HU6.out.keep hT hnG).words (fun x hx => wordsL_range hx)
      have hMl := HR.out.len
      have hMr := HR.out.room
      have hbo := buildOf_calls HR.out.sit.rep HR.out.sit.ord HR.out.sit.dis HR.out.sit.n (f : Int) (by simp [isFormB]; omega) (some ⟨g, 0, none⟩) wl wl HWL.out.symm hwl hwd hnGg (by rw [← HK.out]; exact HOK.out) (by rw [← HK.out, ← HPP.out]; omega)
      rw [← HK.out] at hbo
      have HBO := Lib.hid hbo
      have s6r := hT.size
      have hbl5 : w5.heap.size < wr.heap.size := by have := lt_of_cell c0; exact this
      clear hbo hwd hT
      go_wp2_with fail
      refine HBO.out.mono ?_
      rintro e w7 ⟨x, M', rfl, hxok, hbt, ⟨hgr, hsd⟩, hst⟩
      have hO7 := hst.upd.owns (fun k hk => HR.out.apart k hk) HR.out.own
      have HO7 := Lib.hid hO7
      have s7 := hst.upd.size
      have HXOK := Lib.hid hxok
      have HBT := Lib.hid hbt
      have HGR := Lib.hid hgr
      have HSTD := Lib.hid hst
      have q1 : f - 1 + 1 ≤ maxLen := by unfold maxLen; omega
      have q2 : (f - 1 + 1) * 12 ≤ 140737488355328 := by omega
      clear hO7 hxok hbt hgr hsd hst
      go_upto_region 17 with fail
      go_wp2_with (first
        | (at_builtin; refine wpList_append_fresh rfl _ _ 34 rfl W6.heap.size 67 i5 (.agg #[.int .u8 0, .int .u8 0, .int .u32 0]) 3 12 Try.underlying34 hi5 hz50 hz51 hz52 rfl (by decide) (.slice a5 (f - 1) cap5) (f - 1) (rs.flatMap rootCs) rfl ((HO7.out.alloc _).alloc _) ⟨w7.heap.size + 1, 0, none⟩ 1 1 (rootCs ((f : Int), x)) rfl rfl (cell_new _ _ _ _ (by simp)) (by intro u hu; simp [rootCs] at hu; rcases hu with rfl | rfl | rfl <;> rfl) (by exact q1) (by exact q2) (by simp; omega) ?_; intro v3 w8 hown3 hg3 hfresh)
        | fail)
      obtain ⟨a6, cap6, rfl, -⟩ := owns_slice hown3
      have hu8 : Upd (fun k => (Value.slice a5 (f - 1) cap5).ownBlock = some k) w7 w8 := Upd.grown (by repeat (first | exact Upd.refl _ _ | refine Upd.alloc ?_ _ | refine Upd.drew ?_)) hg3 (fun k hk => .inl hk)
      have hnx := HR.out.next hf1 hf (by rw [← HK.out]; exact h5) HXOK.out HBT.out HGR.out HSTD.out (fun k hk => by have := HLOW.out k (.inl hk); omega) (fun k hk => by have := HLOW.out k (.inr hk); omega) HR.out.sit.rep.lt hu8 hown3 (fun k hk => by
        rcases hfresh k hk with q | q
        · exact .inl q
        · right; simp only [World.size_alloc] at q; omega)
      have HNX := Lib.hid hnx
      clear hown3 hg3 hfresh hu8 hnx
      go_wp2_with fail
      go_roundg (gk - 1)
      case rel =>
        obtain ⟨G', hG'⟩ := HNX.out
        exact ⟨f + 1, M', G', _, _, by omega, by omega, by simp, rfl, hG'⟩
      case measure => omega
    · have hf6 : f = 6 := by omega
      subst hf6
      obtain ⟨hRI, hprop⟩ := HR.out.all (fun k hk => by have := HLOW.out k (.inr hk); omega)
      have hlead0 : ∀ r ∈ rs, (1 ≤ r.1 ∧ r.1 ≤ 5) ∧ M.leads r.1 r.2 0 = true := fun r hr => ⟨(hprop r hr).1, (hprop r hr).2.1⟩
      have hrng : ∀ r ∈ rs, (1 ≤ r.1 ∧ r.1 ≤ 5) := fun r hr => (hprop r hr).1
      have hnum : rs.length = 5 := HR.out.num
      have hsit := HR.out.sit
      have hMl := HR.out.len
      have hMr := HR.out.room
      have hmw := hsit.rep.wf
      have hkwr : Keeps w wr := hkw6.new HR.out.upd (fun k hk => HLO.out k (.inl hk))
      have hGlo : ∀ k, G k ∨ Fo k → w.heap.size ≤ k := fun k hk => by
        rcases hk with hk | hk
        · rcases HR.out.sub k hk with q | q
          · exact HLO.out k (.inl q)
          · have := hkw6.size; omega
        · exact HLO.out k (.inr hk)
      have hps5 : ps.length ≤ 5 := by rw [← HK.out]; exact h5
      have hcall1 := sit_swap hsit hps5 lv (by rw [← HK.out]; exact hlv) a5 cap5 hRI (by omega) hlead0 (by omega)
      rw [hnum] at hcall1
      have HC1 := Lib.hid hcall1
      have HPR := Lib.hid hprop
      have HRNG := Lib.hid hrng
      have HL0 := Lib.hid hlead0
      have HNUM := Lib.hid hnum
      have HRI := Lib.hid hRI
      have HGLO := Lib.hid hGlo
      have HSIT := Lib.hid hsit
      have HMW := Lib.hid hmw
      clear hcall1 hprop hrng hlead0 hnum hRI hGlo hsit hmw HST HBI HOF HU HG HS HO HDS HROW HOK HU6 HWL hb0 hb1
      go_wp2_with fail
      refine HC1.out.mono ?_
      rintro e w10 ⟨g1, es1, M1, F1, rfl, hst1⟩
      have hR1 := HRI.out.next hst1.sub hst1.upd
      have hcall2 := with_calls a5 (some ⟨g1, 0, none⟩) cap5 5 rs es1 w10 hR1.now hst1.edges.now (by have := HNUM.out; omega) hst1.roots.1
      rw [HNUM.out] at hcall2
      have HC2 := Lib.hid hcall2
      have HST1 := Lib.hid hst1
      have HR1 := Lib.hid hR1
      clear hcall2 hst1 hR1
      go_wp2_with fail
      refine HC2.out.mono ?_
      rintro e w11 ⟨v11, rfl, ho11, hk11⟩
      obtain ⟨a11, cap11, rfl, -⟩ := owns_slice ho11
      have hlt1 : ∀ k, F1 k ∨ Fo k → k < w10.heap.size := fun k hk => by
        rcases hk with hk | hk
        · exact HST1.out.sit.rep.lt k hk
        · exact HST1.out.sit.ord.lt k hk
      have hRW1 := with_in (F := F1) (Fo := Fo) hlt1 HST1.out.roots HRNG.out (by rw [HNUM.out]; exact ho11)
      have hwl1 : (withL rs es1).length = 5 := by rw [withL_len HST1.out.roots.1, HNUM.out]
      have hlen1 := HST1.out.went.len
      have hrm1 := HST1.out.went.room
      have hn5 := HNUM.out
      have hlv1 : lv + 1 < ps.length := by rw [← HK.out]; exact hlv
      have hcall3 := sit_swap (HST1.out.sit.keeps hk11) (by rw [runL_len]; exact hps5) lv (by rw [runL_len]; exact hlv1) a11 cap11 hRW1 (by omega) (fun q hq => ⟨(with_leads HST1.out.roots HRNG.out q hq).1, (with_leads HST1.out.roots HRNG.out q hq).2.1⟩) (by rw [hn5] at hlen1; simp at hlen1; omega)
      rw [hwl1] at hcall3
      have HC3 := Lib.hid hcall3
      have HK11 := Lib.hid hk11
      have HWL1 := Lib.hid hwl1
      clear hcall3 hRW1 hlt1 ho11 hwl1 hlen1 hrm1 hn5 hlv1
      go_wp2_with fail
      refine HC3.out.mono ?_
      rintro e w12 ⟨g2, es2, M2, F2, rfl, hst2⟩
      have e0 : runL (runL ps [lv]) [lv] = ps := stepL_twice (by rw [← HK.out]; exact hlv)
      have sit2 := hst2.sit
      rw [e0] at sit2
      have hE1 := HST1.out.went.ext
      have hE2 := hst2.went.ext
      have hR2 := (HR1.out.keeps HK11.out).next hst2.sub hst2.upd
      have hl1 := HST1.out.went.len
      have hl2 := hst2.went.len
      have hr1 := HST1.out.went.room
      have hr2 := hst2.went.room
      rw [HNUM.out] at hl1
      rw [HWL1.out] at hl2
      have hfr' : fr < ps.length := by rw [← HK.out]; exact hfr
      have hto' : tq < ps.length := by rw [← HK.out]; exact hto
      have hlead2 := RootsIn.leads (hE1.trans hE2) HL0.out
      have hM2l : M2.len ≤ 775 := by simp at hl1 hl2; omega
      have hM2r : M2.room = 30000 := by omega
      have hp32' : (2 : Nat) ^ K ≤ 32 := by rw [← HPP.out]; exact hp32
      have hback2 : es2 = rs.map Prod.snd := back_all HP.out HK.out.symm (by rw [sit2.n, HK.out]) (by have := HST1.out.roots; rwa [← HK.out] at this) (by have := hst2.roots; rwa [runL_len, ← HK.out] at this) HMW.out HST1.out.went.wf HST1.out.went.wf hst2.went.wf hE1 (Ext.refl _) hE2 e0 HPR.out sit2.rep.fit0 (by omega)
      have hcall4 := sit_move sit2 hps5 fr tq hfr' hto' a5 cap5 hR2 (by have := HNUM.out; omega) hlead2 (by omega)
      rw [HNUM.out] at hcall4
      have HC4 := Lib.hid hcall4
      have HST2 := Lib.hid hst2
      have HR2 := Lib.hid hR2
      have HE12 := Lib.hid (hE1.trans hE2)
      have HL2 := Lib.hid hlead2
      have HB2 := Lib.hid hback2
      have HM2 := Lib.hid (show M2.len ≤ 775 ∧ M2.room = 30000 from ⟨hM2l, hM2r⟩)
      have HEG2 := Lib.hid hst2.edges
      have HP32 := Lib.hid hp32'
      clear hcall4 hst2 hR2 hE1 hE2 hl1 hl2 hr1 hr2 hlead2 hback2 hM2l hM2r sit2 e0 hp32'
      go_wp2_with fail
      refine HC4.out.mono ?_
      rintro e w13 ⟨g3, es3, M3, F3, rfl, hst3⟩
      have hcall5 := ordPerm_calls hst3.sit.ord
      rw [runL_len, ← HK.out] at hcall5
      have HC5 := Lib.hid hcall5
      have HST3 := Lib.hid hst3
      clear hcall5 hst3
      go_wp2_with fail
      refine HC5.out.mono ?_
      rintro e w14 ⟨aq, capq, rfl, hrq, hk14⟩
      have hR3 := (HR2.out.next HST3.out.sub HST3.out.upd).keeps hk14
      have hcall6 := with_calls a5 (some ⟨g3, 0, none⟩) cap5 5 rs es3 w14 hR3.now (HST3.out.edges.keeps hk14).now (by have := HNUM.out; omega) HST3.out.roots.1
      rw [HNUM.out] at hcall6
      have HC6 := Lib.hid hcall6
      have HRQ := Lib.hid hrq
      have HK14 := Lib.hid hk14
      have HR3 := Lib.hid hR3
      clear hcall6 hrq hk14 hR3
      go_wp2_with fail
      refine HC6.out.mono ?_
      rintro e w15 ⟨v15, rfl, ho15, hk15⟩
      obtain ⟨a15, cap15, rfl, -⟩ := owns_slice ho15
      have hlt3 : ∀ k, F3 k ∨ Fo k → k < w14.heap.size := fun k hk => by
        have := HK14.out.size
        rcases hk with hk | hk
        · have := HST3.out.sit.rep.lt k hk; omega
        · have := HST3.out.sit.ord.lt k hk; omega
      have hRW3 := with_in (F := F3) (Fo := Fo) hlt3 HST3.out.roots HRNG.out (by rw [HNUM.out]; exact ho15)
      have hwl3 : (withL rs es3).length = 5 := by rw [withL_len HST3.out.roots.1, HNUM.out]
      have hl3 := HST3.out.went.len
      have hr3 := HST3.out.went.room
      rw [HNUM.out] at hl3
      have hmL : (moveL fr tq).length ≤ 4 := by have := moveL_len fr tq; omega
      have hmL2 : (((moveL fr tq).length * 5 : Nat) : Int) * 62 ≤ 1240 := by omega
      have hM2 := HM2.out
      have hcall7 := sit_move ((HST3.out.sit.keeps HK14.out).keeps hk15) (by rw [runL_len]; exact hps5) tq fr (by rw [runL_len]; exact hto') (by rw [runL_len]; exact hfr') a15 cap15 hRW3 (by omega) (fun q hq => ⟨(with_leads HST3.out.roots HRNG.out q hq).1, (with_leads HST3.out.roots HRNG.out q hq).2.1⟩) (by omega)
      rw [hwl3] at hcall7
      have HC7 := Lib.hid hcall7
      have HK15 := Lib.hid hk15
      have HWL3 := Lib.hid hwl3
      have HM3 := Lib.hid (show M3.len ≤ 2015 by omega)
      clear hcall7 hRW3 hlt3 ho15 hk15 hwl3 hl3 hr3 hmL hM2
      go_wp2_with fail
      refine HC7.out.mono ?_
      rintro e w16 ⟨g4, es4, M4, F4, rfl, hst4⟩
      have e4 : runL (runL ps (moveL fr tq)) (moveL tq fr) = ps := runL_move hfr' hto'
      have sit4 := hst4.sit
      rw [e4] at sit4
      have hl4 := hst4.went.len
      have hmL3 : (moveL tq fr).length ≤ 4 := by have := moveL_len tq fr; omega
      rw [HWL3.out] at hl4
      have hM3 := HM3.out
      have hP32 := HP32.out
      have hback4 : es4 = rs.map Prod.snd := back_all HP.out HK.out.symm (by rw [sit4.n, HK.out]) (by have := HST3.out.roots; rwa [← HK.out] at this) (by have := hst4.roots; rwa [runL_len, ← HK.out] at this) HST2.out.went.wf HST3.out.went.wf HST3.out.went.wf hst4.went.wf HST3.out.went.ext (Ext.refl _) hst4.went.ext e4 (fun r hr => ⟨HRNG.out r hr, (HL2.out r hr).2, rightK_ext HE12.out HMW.out (HPR.out r hr).2.2.1, (HPR.out r hr).2.2.2⟩) sit4.rep.fit0 (by omega)
      have hR4 := ((HR3.out.keeps HK15.out).next hst4.sub hst4.upd).now
      have hE2 := ((((HEG2.out.next HST3.out.sub HST3.out.upd).keeps HK14.out).keeps HK15.out).next hst4.sub hst4.upd).now
      have hE4 := hst4.edges.now
      rw [HB2.out] at hE2
      rw [hback4] at hE4
      have lowG := HGLO.out
      have low1 := low_next lowG hkwr.size HST1.out.sub
      have kw10 := hkwr.new HST1.out.upd lowG
      have kw11 := kw10.trans HK11.out
      have low2 := low_next low1 kw11.size HST2.out.sub
      have kw12 := kw11.new HST2.out.upd low1
      have low3 := low_next low2 kw12.size HST3.out.sub
      have kw13 := kw12.new HST3.out.upd low2
      have kw15 := (kw13.trans HK14.out).trans HK15.out
      have kw16 := kw15.new hst4.upd low3
      have hq16 := (HRQ.out.keeps HK15.out).later hst4.upd (fun k hk hh => by
        rcases hh with hh | hh
        · have := HST3.out.sit.rep.lt k hh; omega
        · have := HST3.out.sit.ord.lt k hh; omega)
      have hcall8 := ordPerm_calls sit4.ord
      rw [← HK.out] at hcall8
      have HC8 := Lib.hid hcall8
      have HQ16 := Lib.hid hq16
      have HR4 := Lib.hid hR4
      have HE2 := Lib.hid hE2
      have HE4 := Lib.hid hE4
      clear hcall8 hq16 hR4 hE2 hE4 lowG low1 low2 low3 kw10 kw11 kw12 kw13 kw15 hback4 hl4 hmL3 hM3 hP32 sit4 e4 hst4 HST1 HST2 HST3 hkwr hmL2
      go_wp2_with fail
      refine HC8.out.mono ?_
      rintro e w17 ⟨a17, c17, rfl, hr17, hk17⟩
      have kw17 := kw16.trans hk17
      go_wp2_with fail
      refine (HSM.out a17 c17 _ kw17 hr17.ints).mono ?_
      rintro e w18 ⟨rfl, hk18⟩
      have kw18 := kw17.trans hk18
      go_wp2_with fail
      refine (HMV.out _ kw18).mono ?_
      rintro e w19 ⟨a19, c19, rfl, hr19, hk19⟩
      have hk1619 := (hk17.trans hk18).trans hk19
      go_wp2_with fail
      refine (HIN.out aq a19 capq c19 _ (by rw [runL_len, HK.out]) _ (HQ16.out.ints.keeps hk1619) hr19.ints).mono ?_
      rintro e w20 ⟨rfl, hk20⟩
      have hk1620 := hk1619.trans hk20
      have kw20 := kw16.trans hk1620
      have HR5 := Lib.hid (HR4.out.keeps hk1620)
      have HE25 := Lib.hid (HE2.out.keeps hk1620)
      have HE45 := Lib.hid (HE4.out.keeps hk1620)
      clear hr17 hr19 hk17 hk18 hk19 hk20 hk1619 hk1620 kw17 kw18 kw16
      go_wp2_with fail
      go_loopg [29] 5 (fun gk s29 wz => ∃ d : Nat, s29 = .int .i64 (d : Int) ∧ d + gk = 5 ∧ Keeps w20 wz)
      case atStart => exact ⟨0, rfl, by omega, Keeps.refl _⟩
      case round =>
        obtain ⟨d, rfl, hd, hkz⟩ := hrel
        by_cases hlt : d < 5
        · obtain ⟨r, hx⟩ : ∃ b, rs[d]? = some b := ⟨_, List.getElem?_eq_getElem (by rw [HNUM.out]; exact hlt)⟩
          have hy : (rs.map Prod.snd)[d]? = some r.2 := by rw [List.getElem?_map, hx]; rfl
          obtain ⟨_, _, b, off, hab, c0, c1, c2⟩ := HR5.out d r hx
          obtain ⟨_, b2, off2, hab2, x0, x1⟩ := HE25.out d r.2 hy
          obtain ⟨_, b4, off4, hab4, y0, y1⟩ := HE45.out d r.2 hy
          cases hab2
          cases hab4
          subst hab
          rw [Nat.zero_add] at x0 x1 y0 y1
          replace x0 := hkz.cell x0
          replace x1 := hkz.cell x1
          replace y0 := hkz.cell y0
          replace y1 := hkz.cell y1
          replace c1 := hkz.cell c1
          replace c2 := hkz.cell c2
          have hq : ∀ W, (binOp .neq 63 (.agg #[.int .u8 r.2.tag, .int .u32 r.2.to]) (.agg #[.int .u8 r.2.tag, .int .u32 r.2.to])).run Try.prog W = .ok (.bool false) W := fun W => by rw [run_neq_edge]; simp
          clear hx hy c0
          go_wp2_with fail
          go_quiet (fail)
          go_wp2_with fail
          go_roundg (gk - 1)
          case rel => exact ⟨d + 1, by simp, by omega, by (exact kp)⟩
          case measure => omega
        · go_wp2_with fail
          go_ret
          exact ⟨rfl, kw20.trans hkz⟩

theorem swapTwice_walk (a1 : Option Addr) (len cap : Nat) (ps : List Int) (lv fr tq a : Int) (w : World) (hps : IsInts w a1 len ps) (_ : (Lit.int .i64 lv).wf = true) (_ : (Lit.int .i64 fr).wf = true) (_ : (Lit.int .i64 tq).wf = true) (ha : (Lit.int .u64 a).wf = true) :
    Calls Try.prog 4 #[.slice a1 len cap, .int .i64 lv, .int .i64 fr, .int .i64 tq, .int .u64 a] w fun e w' => e = .returned (.bool true) ∧ Keeps w w' := by
  obtain ⟨rfl, hI, hwf⟩ := hps
  have hau : 0 ≤ a ∧ a ≤ 18446744073709551615 := by
    have hmin : IntKind.u64.min = 0 := rfl
    have hmax : IntKind.u64.max = 18446744073709551615 := rfl
    simp [Lit.wf, hmin, hmax] at ha
    exact ha
  by_cases h : ps.length < 2 ∨ 5 < ps.length ∨ permB ps = false ∨ lv < 0 ∨ (ps.length : Int) - 1 ≤ lv ∨ fr < 0 ∨ (ps.length : Int) ≤ fr ∨ tq < 0 ∨ (ps.length : Int) ≤ tq
  · exact swapTwice_out a1 cap ps lv fr tq a w hI h
  · have hp : permB ps = true := by
      cases hp : permB ps with
      | true => rfl
      | false => exact absurd (.inr (.inr (.inl hp))) h
    rw [hp] at h
    obtain ⟨LV, rfl⟩ : ∃ n : Nat, lv = (n : Int) := ⟨lv.toNat, by omega⟩
    obtain ⟨FR, rfl⟩ : ∃ n : Nat, fr = (n : Int) := ⟨fr.toNat, by omega⟩
    obtain ⟨TQ, rfl⟩ : ∃ n : Nat, tq = (n : Int) := ⟨tq.toNat, by omega⟩
    exact swapTwice_in a1 cap ps LV FR TQ a w hI (by omega) (by omega) hp (by omega) (by omega) (by omega) (by omega) (by omega)

set_option maxRecDepth 100000 in
theorem swapTwice_lifted (os : Os) (started : os.Started) (H : Type) (enc : TypeId × Value → H) :
    ReturnsInHanded {} Try.checked os 4 .any (Rows.swapTwiceSpec.pre6 enc Try.prog Try.f4 Rows.swapTwiceRow.domain false) (Rows.swapTwiceSpec.post enc Try.prog Try.f4 false true false false) := by
  refine returnsInHanded_of_change (C := Try.checked) own started (by kernel_rfl) Try.func4
    (ChangeSpec.witness6 (enc := enc) (C := Try.checked) false ⟨#[], #[.slice none 0 0, .int .i64 0, .int .i64 0, .int .i64 0, .int .u64 0], []⟩ 12 (by kernel_rfl) (by kernel_rfl) (by kernel_rfl) (by kernel_rfl)) ?_
  intro W base args ds gs before hval0 hW hcnd _
  have hval : ∀ (j : Nat) t v, Try.f4.params[j]? = some t → args[j]? = some v → Value.okWide Try.prog W .any base t v := hval0
  have hW' := hW
  obtain ⟨p, q, hA0, hV, rfl, hfz, hnd⟩ := hW
  have hA : DataW.TrodAll enc Try.prog W 0 (fun _ => true) true Try.f4.params.toList args.toList ds p := hA0
  rw [Try.params4] at hA hval
  have hAk := hA
  obtain ⟨v0, vs0, d0, ds0, p0, q0, hargs, rfl, rfl, h0, r0⟩ := trodAll_cons hA
  obtain ⟨v1, vs1, d1, ds1, p1, q1, rfl, rfl, rfl, h1, r1⟩ := trodAll_cons r0
  obtain ⟨v2, vs2, d2, ds2, p2, q2, rfl, rfl, rfl, h2, r2⟩ := trodAll_cons r1
  obtain ⟨v3, vs3, d3, ds3, p3, q3, rfl, rfl, rfl, h3, r3⟩ := trodAll_cons r2
  obtain ⟨v4, vs4, d4, ds4, p4, q4, rfl, rfl, rfl, h4, r4⟩ := trodAll_cons r3
  obtain ⟨rfl, rfl, rfl⟩ := trodAll_nil r4
  obtain rfl : args = #[v0, v1, v2, v3, v4] := by cases args; simp_all
  obtain ⟨rfl, rfl⟩ := trodVars_none hV
  obtain ⟨a0, len0, cap0, rfl⟩ := okWide_slice Try.underlying23 (hval 0 23 v0 rfl rfl)
  obtain ⟨rs0, w0⟩ := open_intRow h0
  obtain ⟨a1, rfl, rfl, rfl, w1⟩ := open_int Try.underlying3 (hval 1 3 v1 rfl rfl) h1
  obtain ⟨a2, rfl, rfl, rfl, w2⟩ := open_int Try.underlying3 (hval 2 3 v2 rfl rfl) h2
  obtain ⟨a3, rfl, rfl, rfl, w3⟩ := open_int Try.underlying3 (hval 3 3 v3 rfl rfl) h3
  obtain ⟨a4, rfl, rfl, rfl, w4⟩ := open_int Try.underlying51 (hval 4 51 v4 rfl rfl) h4
  clear hA0 hval0
  refine (swapTwice_walk a0 len0 cap0 rs0 a1 a2 a3 a4 W w0 w1 w2 w3 w4).mono fun e W' ⟨he, bel⟩ => ?_
  subst he
  exact ⟨_, rfl, _, _, _, [], _, [], hW', trodAll_mk1 (shut_bool Try.underlying4 _), trodAll_below laidOut bel _ _ _ _ (by kernel_rfl) hAk, rfl, Below.frame bel _, fun h => by cases h⟩

theorem swapTwice_over : Rows.swapTwiceRow.holds Try.pinned (OpenSpec.ofChange Rows.swapTwiceSpec) :=
  OpenClaim.holds_of_wide 4 Try.f4 rfl rfl rfl rfl rfl rfl rfl ⟨rfl, rfl, rfl, rfl, rfl⟩ rfl rfl rfl rfl rfl (by kernel_rfl) Try.func4 (by kernel_rfl)
    (of_decide_eq_true (by kernel_rfl)) (by unfold Func.isWrapper; first | (rw [if_pos (by decide +kernel)]; kernel_rfl) | (rw [if_neg (by decide +kernel)]; exact ⟨rfl, rfl⟩))
    (fun os started H enc _ => swapTwice_lifted os started H enc)

theorem swapTwice_proved : Rows.SwapTwiceSaid := swapTwice_over

end Go.Proofs.Ytoeoehbpahodnaa
