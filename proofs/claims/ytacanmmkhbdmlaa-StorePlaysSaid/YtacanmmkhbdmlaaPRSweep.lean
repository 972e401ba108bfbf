/-
  The walk of the document's Sweep.
-/
import Derived.Test.YtacanmmkhbdmlaaPRSwPlain
namespace Go.Proofs.Ytacanmmkhbdmlaa
set_option linter.unusedSimpArgs false
set_option linter.unusedVariables false
set_option maxHeartbeats 600000
open Go.RowKit

/-- Behind the drops: rows of nodes that stay and of ids that went, the document's blocks as they were. -/
structure RSw (w1 wr : World) (M : St) (keep : List Int) (k : Nat) (sv gv : Value) : Prop where
  stay : wr.ownsRow w1.heap.size 105 8 sv (stayTo M keep k).length ((stayTo M keep k).flatMap nodeVals)
  gone : wr.ownsRow w1.heap.size 33 1 gv (M.gone.length + (goneTo M keep k).length) ((M.gone ++ goneTo M keep k).map (Value.int .u32))
  keeps : Keeps w1 wr

theorem owns_new {w1 w W : World} {e : TypeId} {size : Nat} {v : Value} {n : Nat} {xs : List Value} (h : w.ownsRow w1.heap.size e size v n xs) (hg : w.grownBy W v.ownBlock) (hk : Keeps w1 w) : Keeps w1 W :=
  hk.new (F := fun k => v.ownBlock = some k) ⟨hg.os, hg.tape, hg.output, hg.size, fun k hk hn => hg.block k hk (fun e => hn e.symm)⟩ (fun k hk' => by
    rcases h.2 with ⟨h0, _⟩ | ⟨g, cap', cur, h0, hbg, _⟩
    · rw [h0] at hk'; simp [Value.ownBlock] at hk'
    · rw [h0] at hk'; simp [Value.ownBlock] at hk'; omega)

theorem owns_apart {w W : World} {b1 b2 : Nat} {e1 e2 : TypeId} {s1 s2 : Nat} {v1 v2 : Value} {n1 n2 : Nat} {x1 x2 : List Value} (h1 : w.ownsRow b1 e1 s1 v1 n1 x1) (h2 : w.ownsRow b2 e2 s2 v2 n2 x2) (hne : e1 ≠ e2) (hg : w.grownBy W v1.ownBlock) : W.ownsRow b2 e2 s2 v2 n2 x2 :=
  Upd.owns (F := fun k => v1.ownBlock = some k) ⟨hg.os, hg.tape, hg.output, hg.size, fun k hk hn => hg.block k hk (fun e => hn e.symm)⟩ (fun k hk hk' => by
    obtain ⟨c1, q1⟩ := owns_type h1 hk'
    obtain ⟨c2, q2⟩ := owns_type h2 hk
    exact ne_of_type q1 q2 hne rfl) h2

set_option maxRecDepth 1000000 in
set_option maxHeartbeats 4000000 in
theorem ref_sweep {F : Nat → Prop} {w : World} {mb : Nat} {M : St} {L : List (Int × Rec)} (h : RefRep F w mb M L) (a : Option Addr) (len cap : Nat) (es : List Edge) (hes : IsEdges w a len es) (hlen : len ≤ 1048576) (hkl : (reachL M.cs (es.map Edge.to)).length ≤ 1048576) :
    Calls Try.prog 71 #[.pointer (some ⟨mb, 0, none⟩), .slice a len cap] w fun e w' =>
      e = .returned (.int .i64 ((goneL M (es.map Edge.to)).length : Int)) ∧ Upd F w w' ∧ ∃ L', RefRep (Grow F w w') w' mb (sweepSt M (es.map Edge.to)) L' := by
  have HR := Lib.hid h
  have HRE := Lib.hid (ref_reach h a len cap es hes hlen)
  obtain ⟨la, lcap, c0, hla⟩ := h.cell
  have HLA := Lib.hid hla
  obtain ⟨lv, gv, h1, h2, h3, h4, h5⟩ := h.lies
  obtain ⟨ga, gcap, rfl, _⟩ := owns_slice h3
  have c1 : w.cell? ⟨mb, 1, none⟩ = some (.slice ga M.gone.length gcap) := by rw [cell_of_row w mb 1 _ _ _ h1]; rfl
  have c2 := h.size
  have hmb := h.lt _ h.own
  have hfew := h.few
  have hle := h.le
  have hgl : M.gone.length ≤ M.cs.length := by have := h.wf.len0; unfold St.len at this; omega
  have HH1 := Lib.hid h1
  obtain ⟨keep, hkeep⟩ : ∃ keep, keep = reachL M.cs (es.map Edge.to) := ⟨_, rfl⟩
  rw [← hkeep] at hkl
  have HKEEP := Lib.hid hkeep
  obtain ⟨i0, hi, hz0, hz1, hz2⟩ := info_parts info_u32
  obtain ⟨j0, hj, jz0, jz1, jz2⟩ := info_parts info_node
  clear h hes hla h1 h2 hkeep h4 h5
  go_enter Try.func71, Try.ntmps71
  go_wp2_with fail
  refine HRE.out.mono ?_
  rintro e w1 ⟨v, rfl, hrow, hk1⟩
  rw [← HKEEP.out] at hrow
  obtain ⟨ka, kcap, rfl, hkc⟩ := hrow
  have HKC := Lib.hid hkc
  have HK1 := Lib.hid hk1
  have d1 := hk1.cell c1
  have d2 := hk1.cell c2
  have d0 := hk1.cell c0
  have hs1 := hk1.size
  have hmb1 : mb < w1.heap.size := by omega
  have h3' := (hk1.owns h3).alloc (.cells #[] 33)
  have hempty : (w1.alloc (.cells #[] 33)).ownsRow w1.heap.size 33 1 (.slice (some ⟨w1.heap.size, 0, none⟩) 0 0) 0 [] := ⟨rfl, .inr ⟨w1.heap.size, 0, #[], rfl, Nat.le_refl _, World.alloc_heap_new w1 _, Nat.le_refl _, Nat.zero_le _, rfl, rfl⟩⟩
  have H3 := Lib.hid h3'
  have HE := Lib.hid hempty
  have hga : ∀ u ∈ M.gone.map (Value.int .u32), u.oneCell' = true := by
    intro u hu
    obtain ⟨x, _, rfl⟩ := List.mem_map.1 hu
    rfl
  have HGA := Lib.hid hga
  have hp2 : 0 + M.gone.length ≤ maxLen := by unfold maxLen; omega
  have hp3 : (0 + M.gone.length) * 4 ≤ 140737488355328 := by omega
  clear hkc hk1 h3 h3' hempty hga c0 c1 c2
  go_wp2_with (first
    | (at_builtin; refine wpList_append_row rfl _ _ 44 rfl w1.heap.size 0 33 i0 (.int .u32 0) 4 Try.underlying44 hi hz0 hz1 hz2 rfl (.slice (some ⟨w1.heap.size, 0, none⟩) 0 0) 0 [] rfl HE.out (.slice ga M.gone.length gcap) M.gone.length (M.gone.map (Value.int .u32)) rfl H3.out HGA.out (by exact hp2) (by exact hp3) (by simp) ?_; intro v' w2 hown2 hg2)
    | fail)
  have hK2 : Keeps w1 w2 := owns_new HE.out hg2 ((Keeps.refl w1).alloc _)
  have hS0 : RSw w1 w2 M keep 0 (.slice none 0 0) v' := ⟨World.ownsRow_nil _ _ _ _, by simpa [goneTo] using hown2, hK2⟩
  have HS0 := Lib.hid hS0
  clear hown2 hg2 hS0 hK2
  go_loopg [6, 7, 8, 9] M.cs.length (fun gk s6 s7 s8 s9 wr => ∃ k : Nat, k + gk = M.cs.length ∧ s8 = .int .i64 ((goneTo M keep k).length : Int) ∧ s9 = .int .u32 ((k : Int) + 2) ∧ RSw w1 wr M keep k s6 s7)
  case atStart => exact ⟨0, by omega, rfl, rfl, HS0.out⟩
  case round =>
    obtain ⟨k, hk, rfl, rfl, hS⟩ := hrel
    obtain ⟨sa, scap, rfl, _⟩ := owns_slice hS.stay
    obtain ⟨g7, gcap7, rfl, _⟩ := owns_slice hS.gone
    have HS := Lib.hid hS
    have HKR := Lib.hid hS.keeps
    have HKW := Lib.hid (HK1.out.trans hS.keeps)
    have hzr := hS.keeps.size
    have c2s := hS.keeps.cell d2
    have c0s := hS.keeps.cell d0
    have c1s := hS.keeps.cell d1
    have hmr : mb < wr.heap.size := by omega
    have hl1 := stayTo_len M keep k
    have hl2 := goneTo_len M keep k
    clear hS
    by_cases hlt : k < M.cs.length
    · have hw1 : IntKind.u32.wrap ((M.cs.length : Int) + 2) = (M.cs.length : Int) + 2 := IntWalk.u32_in _ ⟨by omega, by omega⟩
      have HAT := Lib.hid (ref_at (HR.out.keeps HKW.out) ((k : Int) + 2))
      rcases atI_look HR.out ((k : Int) + 2) with ⟨r, hl, D, hLD, hq, hDl, hat⟩ | ⟨hl, hq, hat⟩
      · clear hq
        rw [hat] at HAT
        obtain ⟨lb, rfl, hFlb, hlv⟩ := HLA.out (by omega)
        have n0 : wr.cell? ⟨lb, D * 8, none⟩ = some (.int .u32 ((k : Int) + 2)) := HKW.out.cell ((hlv D _ hLD 0 (by omega)).trans rfl)
        have n1 : wr.cell? ⟨lb, D * 8 + 1, none⟩ = some (.int .u8 r.form) := HKW.out.cell ((hlv D _ hLD 1 (by omega)).trans rfl)
        have n2 : wr.cell? ⟨lb, D * 8 + 2, none⟩ = some (.int .u8 r.top) := HKW.out.cell ((hlv D _ hLD 2 (by omega)).trans rfl)
        have n3 : wr.cell? ⟨lb, D * 8 + 3, none⟩ = some (.int .u8 r.bot) := HKW.out.cell ((hlv D _ hLD 3 (by omega)).trans rfl)
        have n4 : wr.cell? ⟨lb, D * 8 + 4, none⟩ = some (.int .u8 r.lo.tag) := HKW.out.cell ((hlv D _ hLD 4 (by omega)).trans rfl)
        have n5 : wr.cell? ⟨lb, D * 8 + 5, none⟩ = some (.int .u32 r.lo.to) := HKW.out.cell ((hlv D _ hLD 5 (by omega)).trans rfl)
        have n6 : wr.cell? ⟨lb, D * 8 + 6, none⟩ = some (.int .u8 r.hi.tag) := HKW.out.cell ((hlv D _ hLD 6 (by omega)).trans rfl)
        have n7 : wr.cell? ⟨lb, D * 8 + 7, none⟩ = some (.int .u32 r.hi.to) := HKW.out.cell ((hlv D _ hLD 7 (by omega)).trans rfl)
        have hstT : ∀ hm : (k : Int) + 2 ∈ keep, stayTo M keep (k + 1) = stayTo M keep k ++ [((k : Int) + 2, r)] ∧ goneTo M keep (k + 1) = goneTo M keep k := fun hm => by
          constructor
          · show stayTo M keep k ++ _ = _
            rw [hl]; simp [hm]
          · show goneTo M keep k ++ _ = _
            rw [hl]; simp [hm]
        have hstF : ∀ hm : ¬ (k : Int) + 2 ∈ keep, stayTo M keep (k + 1) = stayTo M keep k ∧ goneTo M keep (k + 1) = goneTo M keep k ++ [(k : Int) + 2] := fun hm => by
          constructor
          · show stayTo M keep k ++ _ = _
            rw [hl]; simp [hm]
          · show goneTo M keep k ++ _ = _
            rw [hl]; simp [hm]
        have HT := Lib.hid hstT
        have HF := Lib.hid hstF
        have hlb : lb < wr.heap.size := lt_of_cell n0
        obtain ⟨g0, hg0⟩ : ∃ g0, g0 = gk := ⟨gk, rfl⟩
        clear hstT hstF hl hlv hLD
        go_wp2_with (first | (go_at_call 70; refine HAT.out.mono ?_; rintro e w' ⟨rfl, rfl⟩) | fail)
        obtain ⟨W6, rfl⟩ : ∃ W6, W6 = wr := ⟨wr, rfl⟩
        go_loopg [11, 12] keep.length (fun gj s11 s12 ws => ∃ j : Nat, j + gj = keep.length ∧ s11 = .bool (decide ((k : Int) + 2 ∈ keep.take j)) ∧ s12 = .int .i64 (j : Int) ∧ ws = W6)
        case atStart => exact ⟨0, by omega, rfl, rfl, rfl⟩
        case round =>
          obtain ⟨j, hjk, rfl, rfl, rfl⟩ := hrel
          by_cases hjl : j < keep.length
          · obtain ⟨x, hx⟩ : ∃ x, keep[j]? = some x := ⟨_, List.getElem?_eq_getElem hjl⟩
            obtain ⟨kg, rfl, hkg⟩ := HKC.out j x hx
            have kc := HKR.out.cell hkg
            have htk : keep.take (j + 1) = keep.take j ++ [x] := by rw [List.take_add_one, hx]; rfl
            have hval : decide ((k : Int) + 2 ∈ keep.take (j + 1)) = (decide ((k : Int) + 2 ∈ keep.take j) || decide (x = (k : Int) + 2)) := by
              rw [htk]
              by_cases h1 : (k : Int) + 2 ∈ keep.take j
              · simp [h1]
              · by_cases h2 : x = (k : Int) + 2
                · simp [h2]
                · simp [h1, h2, Ne.symm h2]
            have HVAL := Lib.hid hval
            clear hval htk hx
            obtain ⟨b, hb⟩ : ∃ b, b = decide ((k : Int) + 2 ∈ keep.take j) := ⟨_, rfl⟩
            rw [← hb] at HVAL ⊢
            clear hb
            cases b
            · by_cases hxe : x = (k : Int) + 2
              · have hxe2 : (x == (k : Int) + 2) = true := by simp [hxe]
                have HXE := Lib.hid hxe
                clear hxe
                go_wp2
                go_roundg (gk - 1)
                case rel => exact ⟨j + 1, by omega, by rw [HVAL.out]; simp [HXE.out], by go_num, rfl⟩
                case measure => omega
              · have hxe2 : (x == (k : Int) + 2) = false := by simp [hxe]
                have HXE := Lib.hid hxe
                clear hxe
                go_wp2
                go_roundg (gk - 1)
                case rel => exact ⟨j + 1, by omega, by rw [HVAL.out]; simp [HXE.out], by go_num, rfl⟩
                case measure => omega
            · go_wp2
              go_roundg (gk - 1)
              case rel => exact ⟨j + 1, by omega, by rw [HVAL.out]; rfl, by go_num, rfl⟩
              case measure => omega
          · have hall : keep.take j = keep := List.take_of_length_le (by omega)
            rw [hall]
            by_cases hm : (k : Int) + 2 ∈ keep
            · obtain ⟨e1, e2⟩ := HT.out hm
              have E1 := Lib.hid e1
              have E2 := Lib.hid e2
              rw [decide_eq_true hm]
              clear e1 e2 hm hall
              have HRS := Lib.hid HS.out.stay
              have q2 : (stayTo M keep k).length + 1 ≤ maxLen := by unfold maxLen; omega
              have q3 : ((stayTo M keep k).length + 1) * 24 ≤ 140737488355328 := by omega
              go_wp2_with (first
                | (at_builtin; refine wpList_append_own _ rfl _ _ 43 rfl w1.heap.size 105 j0 _ 8 24 Try.underlying43 hj jz0 jz1 jz2 rfl (by decide) (.slice sa (stayTo M keep k).length scap) (stayTo M keep k).length ((stayTo M keep k).flatMap nodeVals) rfl (HRS.out.alloc _) _ 1 1 (nodeVals ((k : Int) + 2, r)) rfl rfl (cell_new _ _ _ _ rfl) (by intro u hu; simp [nodeVals, recVals] at hu; rcases hu with rfl | rfl | rfl | rfl | rfl | rfl | rfl | rfl <;> rfl) (by exact q2) (by exact q3) (by simp; omega) ?_; intro v3 w3 hown3 hg3 _)
                | fail)
              go_roundg (g0 - 1)
              case rel =>
                refine ⟨k + 1, by omega, by rw [E2.out], by go_num, ⟨?_, ?_, owns_new (HRS.out.alloc _) hg3 (HKR.out.alloc _)⟩⟩
                · rw [E1.out, List.length_append, List.flatMap_append]
                  simpa using hown3
                · rw [E2.out]
                  exact owns_apart (HRS.out.alloc _) (HS.out.gone.alloc _) (by decide) hg3
              case measure => omega
            · obtain ⟨e1, e2⟩ := HF.out hm
              have E1 := Lib.hid e1
              have E2 := Lib.hid e2
              rw [decide_eq_false hm]
              clear e1 e2 hm hall
              have HRG := Lib.hid HS.out.gone
              have q2 : M.gone.length + (goneTo M keep k).length + 1 ≤ maxLen := by unfold maxLen; omega
              have q3 : (M.gone.length + (goneTo M keep k).length + 1) * 4 ≤ 140737488355328 := by omega
              go_wp2_with (first
                | (at_builtin; refine wpList_append_own _ rfl _ _ 44 rfl w1.heap.size 33 i0 (.int .u32 0) 1 4 Try.underlying44 hi hz0 hz1 hz2 rfl (by decide) (.slice g7 (M.gone.length + (goneTo M keep k).length) gcap7) (M.gone.length + (goneTo M keep k).length) ((M.gone ++ goneTo M keep k).map (Value.int .u32)) rfl (HRG.out.alloc _) ⟨wr.heap.size, 0, none⟩ 1 1 [.int .u32 ((k : Int) + 2)] rfl rfl (cell_new _ _ _ _ rfl) (by simp [Value.oneCell']) (by exact q2) (by exact q3) (by simp; omega) ?_; intro v3 w3 hown3 hg3 _)
                | fail)
              go_roundg (g0 - 1)
              case rel =>
                refine ⟨k + 1, by omega, by rw [E2.out, List.length_append]; simp, by go_num, ⟨?_, ?_, owns_new (HRG.out.alloc _) hg3 (HKR.out.alloc _)⟩⟩
                · rw [E1.out]
                  exact owns_apart (HRG.out.alloc _) (HS.out.stay.alloc _) (by decide) hg3
                · rw [E2.out, List.length_append, ← Nat.add_assoc, ← List.append_assoc, List.map_append]
                  exact hown3
              case measure => omega
      · clear hq
        rw [hat] at HAT
        have hst : stayTo M keep (k + 1) = stayTo M keep k := by
          show stayTo M keep k ++ _ = _
          rw [hl]; simp
        have hgn : goneTo M keep (k + 1) = goneTo M keep k := by
          show goneTo M keep k ++ _ = _
          rw [hl]; simp
        have HST := Lib.hid hst
        have HGN := Lib.hid hgn
        clear hst hgn hl
        go_wp2_with (first | (go_at_call 70; refine HAT.out.mono ?_; rintro e w' ⟨rfl, rfl⟩) | fail)
        go_roundg (gk - 1)
        case rel => exact ⟨k + 1, by omega, by rw [HGN.out], by go_num, ⟨by rw [HST.out]; exact HS.out.stay, by rw [HGN.out]; exact HS.out.gone, HKR.out⟩⟩
        case measure => omega
    · have hkq : k = M.cs.length := by omega
      subst hkq
      have hw1 : IntKind.u32.wrap ((M.cs.length : Int) + 2) = (M.cs.length : Int) + 2 := IntWalk.u32_in _ ⟨by omega, by omega⟩
      have h1r := HKW.out.heap HH1.out
      have f0 := frozen_of_row wr mb 0 _ _ h1r
      have f1 := frozen_of_row wr mb 1 _ _ h1r
      have H1R := Lib.hid h1r
      clear h1r
      have HST := Lib.hid HS.out.stay
      have HGO := Lib.hid HS.out.gone
      obtain ⟨b1, b2, b3, b4⟩ := stay_all HR.out (es.map Edge.to)
      have b0 := goneTo_all M (es.map Edge.to)
      rw [← HKEEP.out] at b0 b1 b2 b3 b4
      have HB1 := Lib.hid b1
      have HB2 := Lib.hid b2
      have HB3 := Lib.hid b3
      have HB4 := Lib.hid b4
      have HB0 := Lib.hid b0
      clear b0 b1 b2 b3 b4
      go_wp2
      go_ret
      have hlt := HR.out.lt
      have own := HR.out.own
      have hS7 := HST.out
      have hG7 := HGO.out
      have ap : ∀ {e : TypeId} {s : Nat} {v : Value} {n : Nat} {x : List Value}, wr.ownsRow w1.heap.size e s v n x → ((wr.setCell ⟨mb, 0, none⟩ (.slice sa (stayTo M keep M.cs.length).length scap)).setCell ⟨mb, 1, none⟩ (.slice g7 (M.gone.length + (goneTo M keep M.cs.length).length) gcap7)).ownsRow w1.heap.size e s v n x := fun {e s v n x} hh => by
        have u1 : Upd (fun k => k = mb) wr ((wr.setCell ⟨mb, 0, none⟩ (.slice sa (stayTo M keep M.cs.length).length scap)).setCell ⟨mb, 1, none⟩ (.slice g7 (M.gone.length + (goneTo M keep M.cs.length).length) gcap7)) :=
          Upd.setCell (F := fun k => k = mb) (p := ⟨mb, 1, none⟩) (Upd.setCell (F := fun k => k = mb) (p := ⟨mb, 0, none⟩) (Upd.refl _ wr) (Or.inl rfl) _) (Or.inl rfl) _
        refine u1.owns (fun k hk e => ?_) hh
        rcases hh.2 with ⟨e0, _⟩ | ⟨g2, cap2, cur, e0, hbg, _⟩
        · rw [e0] at hk; simp [Value.ownBlock] at hk
        · rw [e0] at hk; simp [Value.ownBlock] at hk; omega
      have nb : ∀ {e : TypeId} {s : Nat} {v : Value} {n : Nat} {x : List Value}, wr.ownsRow w1.heap.size e s v n x → ∀ k, v.ownBlock = some k → w1.heap.size ≤ k ∧ k < wr.heap.size := fun {e s v n x} hh k hk => by
        obtain ⟨cur, hcur⟩ := owns_type hh hk
        refine ⟨?_, lt_of_heap hcur⟩
        rcases hh.2 with ⟨e0, _⟩ | ⟨g2, cap2, cur, e0, hbg, _⟩
        · rw [e0] at hk; simp [Value.ownBlock] at hk
        · rw [e0] at hk; simp [Value.ownBlock] at hk; omega
      have hb0 : ∀ {e : TypeId} {s : Nat} {v : Value} {n : Nat} {x : List Value} {W : World}, W.ownsRow w1.heap.size e s v n x → W.ownsRow 0 e s v n x := fun {e s v n x W} hh => ⟨hh.1, by
        rcases hh.2 with h0 | ⟨g2, cap2, cur, e0, hbg, hr⟩
        · exact .inl h0
        · exact .inr ⟨g2, cap2, cur, e0, Nat.zero_le _, hr⟩⟩
      have hgone : (sweepSt M (es.map Edge.to)).gone = M.gone ++ goneTo M keep M.cs.length := by rw [HB0.out]; rfl
      have hcsl : (sweepSt M (es.map Edge.to)).cs.length = M.cs.length := dropCs_length _ _
      have hwz := HKW.out.size
      have hup : Upd F w ((wr.setCell ⟨mb, 0, none⟩ (.slice sa (stayTo M keep M.cs.length).length scap)).setCell ⟨mb, 1, none⟩ (.slice g7 (M.gone.length + (goneTo M keep M.cs.length).length) gcap7)) :=
        Upd.setCell (p := ⟨mb, 1, none⟩) (Upd.setCell (p := ⟨mb, 0, none⟩) (HKW.out.upd F) (Or.inl own) _) (Or.inl own) _
      refine ⟨by rw [← HB0.out]; rfl, hup, stayTo M keep M.cs.length, ⟨⟨.slice sa (stayTo M keep M.cs.length).length scap, .slice g7 (M.gone.length + (goneTo M keep M.cs.length).length) gcap7, ?_, ?_, ?_, ?_, ?_⟩, .inl own, ?_, HR.out.wf.sweep _ (by rw [← HB3.out]; omega), HB1.out, HB2.out, HB3.out, by rw [hcsl]; exact HR.out.few, HB4.out⟩⟩
      · have := heap_setCell_same _ mb 1 _ _ (.slice g7 (M.gone.length + (goneTo M keep M.cs.length).length) gcap7) (heap_setCell_same _ mb 0 _ _ (.slice sa (stayTo M keep M.cs.length).length scap) H1R.out)
        rw [hcsl, show (sweepSt M (es.map Edge.to)).n = M.n from rfl, show (sweepSt M (es.map Edge.to)).room = M.room from rfl]
        simpa using this
      · exact hb0 (ap hS7)
      · rw [hgone, List.length_append]
        exact hb0 (ap hG7)
      · intro k hk
        have := nb hS7 k hk
        exact .inr ⟨by omega, by rw [World.size_setCell, World.size_setCell]; exact this.2⟩
      · intro k hk
        have := nb hG7 k hk
        exact .inr ⟨by omega, by rw [World.size_setCell, World.size_setCell]; exact this.2⟩
      · intro k hk
        rcases hk with hk | hk
        · have := hlt k hk
          rw [World.size_setCell, World.size_setCell]
          omega
        · exact hk.2

end Go.Proofs.Ytacanmmkhbdmlaa
