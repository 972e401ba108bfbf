/-
  The walk of store.Sweep.
-/
import Derived.Test.YtacanmmkhbdmlaaPCollectW
import Derived.Test.YtacanmmkhbdmlaaPHeadRule
import Derived.Test.YtacanmmkhbdmlaaPReachA
import Derived.Test.YtacanmmkhbdmlaaPSAlive
import Derived.Test.YtacanmmkhbdmlaaPSweepA
import Derived.Maps.OwnIn
namespace Go.Proofs.Ytacanmmkhbdmlaa
set_option linter.unusedSimpArgs false
set_option linter.unusedVariables false
set_option maxHeartbeats 600000
open Go.RowKit Go.Shelf

attribute [local go_sem] Oper.semAt_some

theorem _root_.Go.World.ownsMap.keepUpd {G : Nat → Prop} {H : Type} {P : Program} {k : TypeId} {R : Value → Option (DataW H × List MemPlace)} {w W : World} {b n : Nat} {D : DataW H} (h : w.ownsMap P k R b n D) (hu : Upd G w W) (hb : ¬ G b) : W.ownsMap P k R b n D := by
  obtain ⟨es, cl, h1, h2⟩ := h
  exact ⟨es, cl, (hu.block b (Array.getElem?_eq_some_iff.1 h1).1 hb).trans h1, h2⟩

set_option maxRecDepth 100000 in
set_option maxHeartbeats 1000000 in
theorem store_sweep {F : Nat → Prop} {w : World} {sb : Nat} {M : St} (h : StoreRep F w sb M) (a : Option Addr) (len cap : Nat) (es : List Edge) (hes : IsEdges w a len es) (hlen : len ≤ 1048576) :
    Calls Try.prog 27 #[.pointer (some ⟨sb, 0, none⟩), .slice a len cap] w fun e w' => e = .returned (.int .i64 ((goneL M (es.map Edge.to)).length : Int)) ∧ Upd F w w' ∧ StoreRep (Grow F w w') w' sb (sweepSt M (es.map Edge.to)) := by
  have HC := Lib.hid (reached_calls h a len cap es hes hlen)
  have HR := Lib.hid h
  have hsb := h.lt _ h.own
  obtain ⟨ab, ib, c1, c2, hAR, hfew⟩ : ∃ ab ib, w.cell? ⟨sb, 1, none⟩ = some (.pointer (some ⟨ab, 0, none⟩)) ∧ w.cell? ⟨sb, 2, none⟩ = some (.pointer (some ⟨ib, 0, none⟩)) ∧ Hid (∃ Fa, ArenaRep Fa w ab M.cs M.gone M.len M.room) ∧ M.cs.length ≤ 1048576 := by
    obtain ⟨⟨ab, ib, ts, Fa, Fi, q1, q2, _⟩, _⟩ := h
    exact ⟨ab, ib, by rw [cell_of_row w sb 1 _ _ _ q1]; rfl, by rw [cell_of_row w sb 2 _ _ _ q1]; rfl, Lib.hid ⟨Fa, q2⟩, q2.few⟩
  obtain ⟨i0, hi, hz0, hz1, hz2⟩ := info_parts info_u32
  clear h hes
  refine (callsIn_wide (n := 3)).1 ?_
  refine callsIn_of_wp_marks Try.func27 rfl trivial ?_ rfl
  simp only [Try.ntmps27, List.size_toArray, List.length_cons, List.length_nil, Nat.reduceAdd, Nat.reduceSub, Array.replicate_succ, Array.replicate_zero, List.push_toArray, List.append_toArray, List.nil_append, List.cons_append]
  gi_wp2_with fail
  refine ⟨trivial, ?_⟩
  refine (callsIn_wide.2 HC.out).mono ?_
  rintro e w1 ⟨b, S, rfl, hV, hown, hSfew, hb, hk1⟩
  have HV := Lib.hid hV
  have HK1 := Lib.hid hk1
  have c1 := hk1.cell c1
  have c2 := hk1.cell c2
  have hs1 := hk1.size
  have hsb1 : sb < w1.heap.size := by omega
  clear hV hk1
  gi_wp2_with fail
  refine ⟨trivial, ?_⟩
  refine (callsIn_wide.2 (arena_ids ab _)).mono ?_
  rintro e w2 ⟨rfl, hbx, hk2⟩
  gi_wp2_with fail
  rename_i K2 HK2
  simp only [World.size_alloc] at hbx
  have zx : w1.heap.size + 1 + 1 < w2.heap.size := by have := lt_of_cell hbx; simpa using this
  have hkw : Keeps w w2 := ((HK1.out.alloc _).alloc _).trans hk2
  have l5 : w2.cell? ⟨w1.heap.size, 0, none⟩ = some (.map (some b)) := hk2.cell (by simp)
  have l6 : w2.cell? ⟨w1.heap.size + 1, 0, none⟩ = some (.slice none 0 0) := hk2.cell (by simp)
  have lf : w2.frozen? ⟨w1.heap.size + 1, 0, none⟩ = false := (Below.frozen (p := ⟨w1.heap.size + 1, 0, none⟩) hk2 (by simp)).trans (by simp [go_sem])
  have hown2 := ((hown.alloc (.cells #[.map (some b)] 108)).alloc (.cells #[.slice none 0 0] 44)).kept hk2.none (by simp)
  have hbw : b < w1.heap.size := by obtain ⟨_, _, hb', _⟩ := hown; exact (Array.getElem?_eq_some_iff.1 hb').1
  have c1 := ((c1 |> fun h => (show Keeps w1 w2 from (((Keeps.refl w1).alloc _).alloc _).trans hk2).cell h))
  have c2 := ((c2 |> fun h => (show Keeps w1 w2 from (((Keeps.refl w1).alloc _).alloc _).trans hk2).cell h))
  clear hown
  refine wpIn_range (xs := idsL M.cs) (c := 0) (St := fun A => Keeps w A ∧ A.cell? ⟨w1.heap.size + 1 + 1, 0, none⟩ = some (.pointer (some ⟨ab, 0, none⟩)))
    (gf := 107) (lb := #[.pointer (some ⟨w1.heap.size + 1 + 1, 0, none⟩)]) rfl ids_enter
    ?iter
    (fun pre A => (Keeps w A ∧ A.cell? ⟨w1.heap.size + 1 + 1, 0, none⟩ = some (.pointer (some ⟨ab, 0, none⟩))) ∧ A.cell? ⟨w1.heap.size, 0, none⟩ = some (.map (some b)) ∧
      A.ownsMap Try.prog 33 (plainElem (H := Unit) Try.prog 3) b S.length (marksD S) ∧
      (∃ a cap, A.cell? ⟨w1.heap.size + 1, 0, none⟩ = some (.slice a (pre.filter (fun x => !decide (x ∈ S))).length cap) ∧ A.ownsRow (w2.heap.size + 2) 33 1 (.slice a (pre.filter (fun x => !decide (x ∈ S))).length cap) (pre.filter (fun x => !decide (x ∈ S))).length ((pre.filter (fun x => !decide (x ∈ S))).map (Value.int .u32))) ∧ A.frozen? ⟨w1.heap.size + 1, 0, none⟩ = false)
    (fun _ _ => False) (fun p A hp => hp.1) ?abide (fun _ _ _ h _ => h) ⟨⟨hkw, hbx⟩, l5, hown2, ⟨none, 0, l6, World.ownsRow_nil _ _ _ _⟩, lf⟩
    (fun x => { tmps := #[.pointer (some ⟨sb, 0, none⟩), .slice a len cap, undef, undef, .int .i64 0, .pointer (some ⟨w1.heap.size, 0, none⟩), .pointer (some ⟨w1.heap.size + 1, 0, none⟩), .int .u32 x, undef, undef, undef, undef, .pointer (some ⟨sb, 0, none⟩), .bool false, .pointer (some ⟨sb, 0, none⟩), .slice a len cap, .map (some b), .pointer (some ⟨sb, 0, none⟩), .pointer (some ⟨sb, 0, none⟩), .pointer (some ⟨sb, 1, none⟩), .pointer (some ⟨ab, 0, none⟩), .func (.func 107) #[] #[.pointer (some ⟨w1.heap.size + 1 + 1, 0, none⟩)], .int .u32 x, undef, undef, undef, undef, undef, undef, undef, undef, undef, undef, undef, undef, undef, undef, undef, undef, undef, undef, undef, undef, undef, undef, undef, undef, undef, undef, undef, undef, undef, undef, undef, undef, undef, undef, undef, undef, undef, undef, undef], defers := [] })
    ?assign ?body ?done ?stop
  case iter =>
    obtain ⟨Fa, hA⟩ := hAR.out
    exact ids1_iter (fun A hA' => ⟨hA.keeps hA'.1, hA'.2⟩)
  case abide =>
    rintro p A A' ⟨⟨h1, h2⟩, h3, h4, ⟨a, cap, h5, h6⟩, h7⟩ hu
    have hb : ∀ k, k < w2.heap.size → ¬ (w2.heap.size ≤ k ∧ k < w2.heap.size + (0 + 2)) := fun k hk hh => by omega
    refine ⟨⟨h1.new hu (fun k hk => by omega), hu.cellAt (hb _ (by omega)) h2⟩, hu.cellAt (hb _ (by omega)) h3, h4.keepUpd hu (hb _ (by omega)), ⟨a, cap, hu.cellAt (hb _ (by omega)) h5, hu.owns (fun k hk hh => ?_) h6⟩, (World.frozen?_of_block (a := ⟨w1.heap.size + 1, 0, none⟩) (hu.block (w1.heap.size + 1) (lt_of_cell h5) (hb (w1.heap.size + 1) (by omega)))).trans h7⟩
    rcases h6.2 with ⟨e0, _⟩ | ⟨g', cap', cur, e0, hbg, _⟩
    · rw [e0] at hk; simp [Value.ownBlock] at hk
    · rw [e0] at hk; simp [Value.ownBlock] at hk; omega
  case assign =>
    intro l' m x A K hK
    gi_wp2
    exact hK
  case body =>
    rintro l' m pre x A ⟨⟨h1, h2⟩, h3, h4, ⟨va, vcap, h5, h6⟩, h7⟩ hpre hsz
    have hxm : x ∈ idsL M.cs := hpre.subset (by simp)
    obtain ⟨hx2, hxc⟩ : 2 ≤ x ∧ x - 2 < (M.cs.length : Int) := by
      have := idsL_mem.1 hxm
      cases hl : look M.cs x with
      | none => exact absurd hl this
      | some r => have := look_some hl; omega
    have hwf : (Lit.int .u32 x).wf = true := by simp [Lit.wf, show IntKind.u32.min = 0 from rfl, show IntKind.u32.max = 4294967295 from rfl]; omega
    have hkey := Maps.keyOf_int_mk Try.underlying33 hwf
    obtain ⟨q, hq⟩ : ∃ q, q = pre.filter (fun x => !decide (x ∈ S)) := ⟨_, rfl⟩
    have hfil : (pre ++ [x]).filter (fun x => !decide (x ∈ S)) = q ++ (if x ∈ S then [] else [x]) := by
      rw [List.filter_append, ← hq]
      by_cases hm : x ∈ S <;> simp [hm]
    have hql : q.length + 1 ≤ 1048576 := by
      have e1 : q.length ≤ pre.length := by rw [hq]; exact List.length_filter_le _ _
      have e2 := hpre.length_le
      have e3 : (idsL M.cs).length ≤ M.cs.length := by
        unfold idsL
        rw [idsFrom_len]
        exact List.length_filter_le _ _
      simp at e2
      omega
    rw [← hq] at h5 h6
    have HFIL := Lib.hid hfil
    have HPRE := Lib.hid hpre
    clear hfil hpre hq hxm
    have hlt := lt_of_cell h5
    have hlt3 := lt_of_cell h3
    dsimp only at hlt hlt3
    have nr : ∀ k, Value.ownBlock (.slice va q.length vcap) = some k → w2.heap.size + 2 ≤ k := fun k hk => by
      rcases h6.2 with ⟨e0, _⟩ | ⟨g', cap', cur, e0, hbg, _⟩
      · rw [e0] at hk; simp [Value.ownBlock] at hk
      · rw [e0] at hk; simp [Value.ownBlock] at hk; omega
    have hp2 : q.length + 1 ≤ maxLen := by unfold maxLen; omega
    have hp3 : (q.length + 1) * 4 ≤ 140737488355328 := by omega
    obtain ⟨c, hrun, hat, -⟩ := h4.lookup_int (Maps.int_keyed Try.underlying33) Try.underlying108 Try.underlying3 (zero_int _) hkey
    have HM4 := Lib.hid h4
    clear h4
    by_cases hm : x ∈ S
    · rw [marksD_in hm] at hat
      cases hat
      gi_wp2
      refine ⟨fun k _ _ => rfl, Nat.le_refl _, ⟨h1, h2⟩, h3, HM4.out, ⟨va, vcap, ?_, ?_⟩, h7⟩
      · rw [HFIL.out, if_pos hm, List.append_nil]
        exact h5
      · rw [HFIL.out, if_pos hm, List.append_nil]
        exact h6
    · rw [marksD_out hm] at hat
      cases hat
      have H6 := Lib.hid h6
      gi_wp2_with (first
        | (gi_at_builtin; refine wpListIn_append_own _ rfl _ _ 44 rfl (w2.heap.size + 2) 33 i0 (.int .u32 0) 1 4 Try.underlying44 hi hz0 hz1 hz2 rfl (by decide) (.slice va q.length vcap) q.length (q.map (Value.int .u32)) rfl (H6.out.alloc _) ⟨A.heap.size, 0, none⟩ 1 1 [.int .u32 x] rfl rfl (cell_one_new _ _ _) (by simp [Value.oneCell']) (by exact hp2) (by exact hp3) (by simp; omega) ?_; intro v' w3 hown3 hg3 _; obtain ⟨g', cap', rfl⟩ := ownsRow_succ hown3; obtain ⟨hu3, c9, f9⟩ := boxAfter hg3 nr (by omega) h5 h7)
        | fail)
      have hg'B : w2.heap.size + 2 ≤ g' := by
        rcases hown3.2 with ⟨e0, _⟩ | ⟨g2, cap2, cur, e0, hbg, _⟩
        · simp at e0
        · simp at e0; omega
      have hu4 : Upd (fun k => Value.ownBlock (.slice va q.length vcap) = some k ∨ k = w1.heap.size + 1) A (w3.setCell ⟨w1.heap.size + 1, 0, none⟩ (.slice (some ⟨g', 0, none⟩) (q.length + 1) cap')) :=
        Upd.setCell (F := fun k => Value.ownBlock (.slice va q.length vcap) = some k ∨ k = w1.heap.size + 1) (hu3.mono (fun k _ hk => Or.inl hk)) (p := ⟨w1.heap.size + 1, 0, none⟩) (.inl (Or.inr rfl)) _
      have hu5 : Upd (fun k => k = w1.heap.size + 1) w3 (w3.setCell ⟨w1.heap.size + 1, 0, none⟩ (.slice (some ⟨g', 0, none⟩) (q.length + 1) cap')) :=
        Upd.setCell (F := fun k => k = w1.heap.size + 1) (Upd.refl _ w3) (p := ⟨w1.heap.size + 1, 0, none⟩) (.inl rfl) _
      have hfar : ∀ k, k < w2.heap.size + 2 → k ≠ w1.heap.size + 1 → ¬ (Value.ownBlock (.slice va q.length vcap) = some k ∨ k = w1.heap.size + 1) := fun k q1 q2 hh => by
        rcases hh with hh | hh
        · have := nr _ hh; omega
        · exact q2 hh
      refine ⟨fun k q1 q2 => hu4.block k (by omega) (hfar k (by omega) (by omega)), hu4.size, ⟨h1.new hu4 (fun k hk => ?_), hu4.cellAt (hfar _ (by omega) (by omega)) h2⟩, hu4.cellAt (hfar _ (by omega) (by omega)) h3, HM4.out.keepUpd hu4 (hfar b (by omega) (by omega)), ⟨some ⟨g', 0, none⟩, cap', ?_, ?_⟩, ?_⟩
      · rcases hk with hk | hk
        · have := nr _ hk; omega
        · omega
      · rw [HFIL.out, if_neg hm, List.length_append]
        simp [go_sem, c9]
      · have := hu5.owns (fun k hk hh => by simp [Value.ownBlock] at hk; omega) hown3
        rw [HFIL.out, if_neg hm, List.length_append, List.map_append]
        exact this
      · simp [go_sem, f9]
  case done =>
    rintro A ⟨⟨h1, h2⟩, h3, h4, ⟨va, vcap, h5, h6⟩, h7⟩ hK
    rw [goneS_eq HV.out] at h5 h6
    obtain ⟨q, hq⟩ : ∃ q, q = goneL M (es.map Edge.to) := ⟨_, rfl⟩
    rw [← hq] at h5 h6
    have hqlen : q.length ≤ 1048576 := by
      have e1 : q.length ≤ (idsL M.cs).length := by rw [hq]; exact List.length_filter_le _ _
      have e3 : (idsL M.cs).length ≤ M.cs.length := by
        unfold idsL
        rw [idsFrom_len]
        exact List.length_filter_le _ _
      omega
    obtain ⟨ab', ib', hsw⟩ := (HR.out.keeps h1).sweep0 q
    have HSW := Lib.hid hsw
    have HH1 := Lib.hid h1
    have HK := Lib.hid hK
    have H6 := Lib.hid h6
    have HQ := Lib.hid hq
    have hzA := h1.size
    have hlt5 := lt_of_cell h5
    dsimp only at hlt5
    clear h1 h2 h3 h4 hsw hq h6 h7 hK hown2 l5 l6 lf c1 c2 hbx
    have hnF : ∀ j, w.heap.size ≤ j → ¬ F j := fun j hj hf => by have := HR.out.lt _ hf; omega
    have hrow : ∀ j id, q[j]? = some id → ∃ g, va = some ⟨g, 0, none⟩ ∧ w2.heap.size + 2 ≤ g ∧ A.cell? ⟨g, j, none⟩ = some (.int .u32 id) := by
      intro j id hj
      have hj' := (List.getElem?_eq_some_iff.1 hj).1
      rcases H6.out.2 with ⟨e0, hz⟩ | ⟨g2, cap2, cur, e0, hbg, _⟩
      · omega
      · cases e0
        refine ⟨g2, rfl, hbg, ?_⟩
        rw [H6.out.cellAt j (by omega)]
        simp [hj]
    have HROW := Lib.hid hrow
    have HNF := Lib.hid hnF
    have hgl : ∀ x ∈ q, look M.cs x ≠ none ∧ 2 ≤ x ∧ x - 2 < (M.cs.length : Int) := fun x hx => by
      rw [HQ.out] at hx
      exact ⟨(goneL_mem.1 hx).1, goneL_two hx⟩
    have HGL := Lib.hid hgl
    have hnd : q.Nodup := by rw [HQ.out]; exact goneL_nodup _ _
    have HND := Lib.hid hnd
    clear hrow hnF hgl hnd
    refine HK2 _ _ (wpIn_wide.2 ?_)
    clear HK2
    go_wp2_with fail
    go_loopg [33] q.length (fun gk v wr => ∃ k : Nat, k + gk = q.length ∧ v = .int .i64 (k : Int) ∧ SwRep F A wr sb ab' ib' M q k k)
    case atStart => exact ⟨0, by omega, rfl, HSW.out⟩
    case round =>
      obtain ⟨k, hk, rfl, hS⟩ := hrel
      have HS := Lib.hid hS
      have hupd := Lib.hid hS.upd
      have hzr := hS.upd.size
      clear hS
      by_cases hlt : k < q.length
      · obtain ⟨id, hid⟩ : ∃ id, q[k]? = some id := ⟨_, List.getElem?_eq_getElem hlt⟩
        obtain ⟨g, rfl, hgB, hgc⟩ := HROW.out k id hid
        have rc : wr.cell? ⟨g, k, none⟩ = some (.int .u32 id) := hupd.out.cellAt (HNF.out g (by omega)) hgc
        obtain ⟨hl0, hid2, hidc⟩ := HGL.out id (List.mem_of_getElem? hid)
        obtain ⟨r, hr⟩ : ∃ r, look M.cs id = some r := by
          cases hl : look M.cs id with
          | none => exact absurd hl hl0
          | some r => exact ⟨r, rfl⟩
        have htwo : ∀ x ∈ q.take k, 2 ≤ x := fun x hx => (HGL.out x (List.mem_of_mem_take hx)).2.1
        have hnot : id ∉ q.take k := by
          intro hm
          obtain ⟨j, hj⟩ := List.getElem?_of_mem hm
          have hjk : j < k := by
            have := (List.getElem?_eq_some_iff.1 hj).1
            rw [List.length_take] at this
            omega
          rw [List.getElem?_take_of_lt hjk] at hj
          have h1 := List.getElem?_eq_some_iff.1 hj
          have h2 := List.getElem?_eq_some_iff.1 hid
          have := (List.getElem_inj (h₀ := h1.1) (h₁ := h2.1) HND.out).1 (by rw [h1.2, h2.2])
          omega
        have hlk : look (dropCs M.cs (q.take k)) id = some r := by rw [look_drop htwo, if_neg hnot, hr]
        have honce : ∀ r' i j, look (dropCs M.cs (q.take k)) i = some r' → look (dropCs M.cs (q.take k)) j = some r' → i = j := by
          intro r' i j h1 h2
          rw [look_drop htwo] at h1 h2
          split at h1
          · cases h1
          · split at h2
            · cases h2
            · exact HR.out.once r' i j h1 h2
        have hrok : r.ok := HR.out.fit hr
        have hlen1 : 1 ≤ M.len - k := by
          obtain ⟨ts, Fa, Fi, q1, q2, q3, q4, _⟩ := HS.out.rep
          obtain ⟨i, hi'⟩ := (q4 r id).2 hlk
          have := occ_set_none hi'
          omega
        have HG := Lib.hid (fun (W : World) (hW : Keeps wr W) => (HS.out.keeps hW).get (by omega) hlk)
        have HI := Lib.hid (fun (W : World) (hW : Keeps wr W) => (HS.out.keeps hW).idrop hid hid2 hrok hlk honce)
        have d1 : wr.cell? ⟨sb, 1, none⟩ = some (.pointer (some ⟨ab', 0, none⟩)) := by rw [cell_of_row wr sb 1 _ _ _ HS.out.head]; rfl
        have d2 : wr.cell? ⟨sb, 2, none⟩ = some (.pointer (some ⟨ib', 0, none⟩)) := by rw [cell_of_row wr sb 2 _ _ _ HS.out.head]; rfl
        have HLK := Lib.hid hlk
        have HID := Lib.hid hid
        clear hlk hid honce htwo hnot hr hl0
        have hsr : sb < wr.heap.size := lt_of_cell d1
        go_wp2_with fail
        refine (HG.out _ (by (repeat (first | with_reducible exact Keeps.refl _ | with_reducible assumption | with_reducible refine Keeps.alloc ?_ _ | with_reducible refine Keeps.drewN ?_ _ | with_reducible refine Keeps.drew ?_ | refine Keeps.setCell ?_ (by dsimp only; omega) _ | with_reducible refine Keeps.trans ?_ (by assumption))))).mono ?_
        rintro e w3 ⟨rfl, hk3⟩
        have e1 := hk3.cell d1
        have e2 := hk3.cell d2
        have hz3 := hk3.size
        have hs3 : sb < w3.heap.size := by omega
        go_wp2_with fail
        refine wp_region_head 6 #[true, true, true, true, true, true, false] (by kernel_rfl) (by kernel_rfl) ?_
        simp only [List.take_succ_cons, List.take_zero, List.drop_succ_cons, List.drop_zero]
        repeat still_step
        refine wpStill_nil ?_
        refine wpAny_ready (fuel := 0) (rs := [6]) (by kernel_rfl) (by decide) (AllReady.cons rfl (fun K hK => ?_) AllReady.nil)
        go_simp
        refine (HI.out _ (by (repeat (first | with_reducible exact Keeps.refl _ | with_reducible assumption | with_reducible refine Keeps.alloc ?_ _ | with_reducible refine Keeps.drewN ?_ _ | with_reducible refine Keeps.drew ?_ | refine Keeps.setCell ?_ (by dsimp only; omega) _ | with_reducible refine Keeps.trans ?_ (by assumption))))).mono ?_
        rintro e w4 ⟨rfl, hS4⟩
        refine hK _ _ ?_
        clear hK K
        refine wpAny_done (by kernel_rfl) ?_ _
        have HA := Lib.hid (fun (W : World) (hW : Keeps w4 W) => (hS4.keeps hW).adrop HID.out HLK.out hlen1)
        have d4 : w4.cell? ⟨sb, 1, none⟩ = some (.pointer (some ⟨ab', 0, none⟩)) := by rw [cell_of_row w4 sb 1 _ _ _ hS4.head]; rfl
        have hs4 : sb < w4.heap.size := lt_of_cell d4
        clear hS4
        go_wp2_with fail
        refine (HA.out _ (by (repeat (first | with_reducible exact Keeps.refl _ | with_reducible assumption | with_reducible refine Keeps.alloc ?_ _ | with_reducible refine Keeps.drewN ?_ _ | with_reducible refine Keeps.drew ?_ | refine Keeps.setCell ?_ (by dsimp only; omega) _ | with_reducible refine Keeps.trans ?_ (by assumption))))).mono ?_
        rintro e w5 ⟨rfl, hS5⟩
        have HS5 := Lib.hid hS5
        clear hS5
        go_wp2
        go_roundg (gk - 1)
        case rel => exact ⟨k + 1, by omega, by simp, HS5.out⟩
        case measure => omega
      · have hbx : wr.cell? ⟨w1.heap.size + 1, 0, none⟩ = some (.slice va q.length vcap) := hupd.out.cellAt (HNF.out _ (by omega)) h5
        have hkq : k = q.length := by omega
        subst hkq
        have hKr : wr.heap[w2.heap.size]? = some (.deferred (some [])) := (hupd.out.block _ (Array.getElem?_eq_some_iff.1 HK.out).1 (HNF.out _ (by omega))).trans HK.out
        have hdlt := (Array.getElem?_eq_some_iff.1 HK.out).1
        go_wp2
        refine ⟨by simp, .inl ⟨_, _, rfl, run_takeDeferred hKr, ?_⟩⟩
        have hus : Upd (fun k => k = w2.heap.size) wr (wr.putObj w2.heap.size (.deferred none)) := Upd.putObj (F := fun k => k = w2.heap.size) (Upd.refl _ wr) (.inl rfl) _
        have hS := HS.out
        rw [HQ.out] at hS
        refine ⟨_, results_tmp rfl _ _ _, by rw [HQ.out]; rfl, hS.done HR.out.wf HH1.out HR.out.lt (by omega) hdlt hus⟩
  case stop => exact fun _ _ _ h _ => h.elim

end Go.Proofs.Ytacanmmkhbdmlaa
