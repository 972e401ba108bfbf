/-
  The document's Find over its state.
-/
import Derived.Test.YtimffidpbcflaaaRef5
namespace Go.Proofs.Ytimffidpbcflaaa
set_option linter.unusedSimpArgs false
set_option linter.unusedVariables false
set_option maxHeartbeats 600000
open Go.RowKit

/-- The document's list behind Find. -/
def refL (M : St) (L : List (Int × Rec)) (r : Rec) : List (Int × Rec) :=
  match M.idOf r with
  | some _ => L
  | none => if M.bad r then L else if M.room ≤ M.len then L else L ++ [(putId M.gone M.cs.length, r)]

theorem ref_add {F : Nat → Prop} {M : St} {L : List (Int × Rec)} {r : Rec} (hr : r.ok) (hwf : M.wf) (hmem : ∀ id r, (id, r) ∈ L ↔ look M.cs id = some r) (hids : (L.map Prod.fst).Nodup) (hlen : (L.length : Int) = M.len) (hfew : M.cs.length ≤ 1048576)
    (hfit : ∀ p ∈ L, p.2.ok) (hroom : M.len < M.room) :
    (∀ id r', (id, r') ∈ L ++ [(putId M.gone M.cs.length, r)] ↔ look (M.add r).cs id = some r') ∧ ((L ++ [(putId M.gone M.cs.length, r)]).map Prod.fst).Nodup ∧ ((L ++ [(putId M.gone M.cs.length, r)]).length : Int) = (M.add r).len ∧
      (M.add r).cs.length ≤ 1048576 ∧ ∀ p ∈ L ++ [(putId M.gone M.cs.length, r)], p.2.ok := by
  refine ⟨fun id r' => ?_, ?_, ?_, ?_, ?_⟩
  · rw [hwf.look_add r id r', List.mem_append, hmem]
    simp only [List.mem_singleton, Prod.mk.injEq]
    exact Or.comm
  · rw [List.map_append, List.nodup_append]
    refine ⟨hids, by simp, ?_⟩
    intro x hx y hy
    simp at hy
    obtain ⟨p, hp, rfl⟩ := List.mem_map.1 hx
    have h1 := (hmem p.1 p.2).1 hp
    have h2 := (putId_range hwf.gone).2.2
    intro e
    rw [e, hy, h2] at h1
    cases h1
  · rw [M.len_add r]
    simp
    omega
  · have h1 := hwf.len0
    have h2 := hwf.room1
    have h3 := hwf.full
    unfold St.add putCs
    cases hg : M.gone.getLast? with
    | none =>
      have hg0 : M.gone = [] := by simpa using hg
      have : M.len = (M.cs.length : Int) := by unfold St.len; rw [hg0]; simp
      simp
      omega
    | some x => simpa using hfew
  · intro p hp
    rcases List.mem_append.1 hp with hp | hp
    · exact hfit p hp
    · simp at hp
      rw [hp]
      exact hr

theorem ref_find {F : Nat → Prop} {w : World} {mb : Nat} {M : St} {L : List (Int × Rec)} (h : RefRep F w mb M L) (r : Rec) (hr : r.ok) :
    Calls Try.prog 59 #[.pointer (some ⟨mb, 0, none⟩), .agg #[.int .u8 r.form, .int .u8 r.top, .int .u8 r.bot, .int .u8 r.lo.tag, .int .u32 r.lo.to, .int .u8 r.hi.tag, .int .u32 r.hi.to]] w fun e w' =>
      e = .returned (.tuple #[.int .u32 (M.findId r), .int .i64 (M.findErr r)]) ∧ Upd F w w' ∧ RefRep (Grow F w w') w' mb (M.findSt r) (refL M L r) := by
  have hlead := fun (W : World) (hW : Keeps w W) (e : Edge) (he : e.ok) => ref_leads (h.keeps hW) r.form e (r.bot + 1) he
  have hg := fun (W : World) (hW : Keeps w W) => ref_has (h.keeps hW) r
  have hsame : ∀ {e : Ending} {w' : World} {i er : Int}, M.findSt r = M → refL M L r = L → M.findId r = i → M.findErr r = er → e = .returned (.tuple #[.int .u32 i, .int .i64 er]) ∧ Keeps w w' →
      e = .returned (.tuple #[.int .u32 (M.findId r), .int .i64 (M.findErr r)]) ∧ Upd F w w' ∧ RefRep (Grow F w w') w' mb (M.findSt r) (refL M L r) := by
    intro e w' i er h1 hL h2 h3 ⟨h4, h5⟩
    rw [h1, h2, h3, hL]
    have hk := h.keeps h5
    refine ⟨h4, h5.upd F, hk.mono (fun k hk => .inl hk) (fun k hk' => ?_)⟩
    rcases hk' with hk' | hk'
    · exact hk.lt k hk'
    · exact hk'.2
  have hwf := h.wf
  have hle := h.le
  have hlt := h.lt
  have hadd := fun hroom => ref_add (F := F) hr h.wf h.mem h.ids h.len h.few h.fit hroom
  have hb1 := hr.bot.1
  have hb2 := hr.bot.2
  have hright := fun W => refright_calls r hr M.n W
  obtain ⟨⟨lv, gv, h1, h2, h3, h4, h5⟩, a1, a2, a3, a4, a5, a6, a7, a8⟩ := h
  have c0 : w.cell? ⟨mb, 0, none⟩ = some lv := by rw [cell_of_row w mb 0 _ _ _ h1]; rfl
  have c1 : w.cell? ⟨mb, 1, none⟩ = some gv := by rw [cell_of_row w mb 1 _ _ _ h1]; rfl
  have c2 : w.cell? ⟨mb, 2, none⟩ = some (.int .u32 (M.cs.length : Int)) := by rw [cell_of_row w mb 2 _ _ _ h1]; rfl
  have c3 : w.cell? ⟨mb, 3, none⟩ = some (.int .i64 M.n) := by rw [cell_of_row w mb 3 _ _ _ h1]; rfl
  have c4 : w.cell? ⟨mb, 4, none⟩ = some (.int .i64 M.room) := by rw [cell_of_row w mb 4 _ _ _ h1]; rfl
  have hfz : ∀ o, w.frozen? ⟨mb, o, none⟩ = false := fun o => frozen_of_row w mb o _ _ h1
  have hmb := lt_of_heap h1
  cases hi : M.idOf r with
  | some id =>
    rw [hi] at hg
    have h2 := (look_some (idOf_look hi)).1
    refine (rfind_old mb r id M.n w (by omega) c3 hg).mono fun e w' he => ?_
    exact hsame (by unfold St.findSt; rw [hi]) (by unfold refL; rw [hi]) (by unfold St.findId; rw [hi]) (by unfold St.findErr; rw [hi]) he
  | none =>
    rw [hi] at hg
    have hlo := fun W hW => hlead W hW r.lo hr.lo
    have hhi := fun W hW => hlead W hW r.hi hr.hi
    cases hbad : M.bad r with
    | true =>
      have fin : ∀ {e : Ending} {w' : World}, e = .returned (.tuple #[.int .u32 0, .int .i64 1]) ∧ Keeps w w' → e = .returned (.tuple #[.int .u32 (M.findId r), .int .i64 (M.findErr r)]) ∧ Upd F w w' ∧ RefRep (Grow F w w') w' mb (M.findSt r) (refL M L r) :=
        hsame (by unfold St.findSt; rw [hi, hbad]; rfl) (by unfold refL; rw [hi, hbad]; rfl) (by unfold St.findId; rw [hi, hbad]; rfl) (by unfold St.findErr; rw [hi, hbad]; rfl)
      unfold St.bad at hbad
      cases hR : rightB r M.n with
      | false =>
        rw [hR] at hright
        exact (rfind_bad1 mb r hb1 hb2 M.n w c3 hg hright).mono fun e w' he => fin he
      | true =>
        rw [hR] at hright hbad
        cases hL : M.leads r.form r.lo (r.bot + 1) with
        | false =>
          rw [hL] at hlo
          exact (rfind_bad2 mb r hb1 hb2 M.n w c3 hg hright hlo).mono fun e w' he => fin he
        | true =>
          rw [hL] at hlo hbad
          have hH : M.leads r.form r.hi (r.bot + 1) = false := by simpa using hbad
          rw [hH] at hhi
          exact (rfind_bad3 mb r hb1 hb2 M.n w c3 hg hright hlo hhi).mono fun e w' he => fin he
    | false =>
      have hb := hbad
      unfold St.bad at hb
      simp only [Bool.or_eq_false_iff, Bool.not_eq_false'] at hb
      rw [hb.1.1] at hright
      rw [hb.1.2] at hlo
      rw [hb.2] at hhi
      by_cases hfull : M.room ≤ M.len
      · obtain ⟨la, lcap, rfl, -⟩ := owns_slice h2
        refine (rfind_full mb r hb1 hb2 M.n M.room la L.length lcap w c3 c0 c4 (by omega) hg hright hlo hhi).mono fun e w' he => ?_
        exact hsame (by unfold St.findSt; rw [hi, hbad]; simp [hfull]) (by unfold refL; rw [hi, hbad]; simp [hfull]) (by unfold St.findId; rw [hi, hbad]; simp [hfull]) (by unfold St.findErr; rw [hi, hbad]; simp [hfull]) he
      · have hroom : M.len < M.room := by omega
        have e1 : M.findSt r = M.add r := by unfold St.findSt; rw [hi, hbad]; simp [hfull, St.add]
        have e2 : M.findId r = putId M.gone M.cs.length := by unfold St.findId; rw [hi, hbad]; simp [hfull]
        have e3 : M.findErr r = 0 := by unfold St.findErr; rw [hi, hbad]; simp [hfull]
        have e4 : refL M L r = L ++ [(putId M.gone M.cs.length, r)] := by unfold refL; rw [hi, hbad]; simp [hfull]
        obtain ⟨b1, b2, b3, b4, b5⟩ := hadd hroom
        have hwf' := hwf.add hi hbad hroom
        have hr1 := hwf.room1
        have hne : lv.ownBlock ≠ some mb := by
          intro e
          obtain ⟨cur, hcur⟩ := owns_type h2 e
          exact ne_of_type hcur h1 (by decide) rfl
        rw [e1, e2, e3, e4]
        cases hgo : M.gone.getLast? with
        | none =>
          have hg0 : M.gone = [] := by simpa using hgo
          rw [hg0] at h3
          obtain ⟨ga, gcap, rfl, -⟩ := owns_slice h3
          have ep : putId M.gone M.cs.length = (M.cs.length : Int) + 2 := by unfold putId; rw [hgo]
          have ec : (M.add r).cs = M.cs ++ [some r] := by unfold St.add putCs; rw [hgo]
          have eg : (M.add r).gone = [] := by unfold St.add; rw [hg0]; rfl
          refine (rfind_more mb r hb1 hb2 M.n M.room lv L.length M.cs.length (L.flatMap nodeVals) ga gcap w c3 c0 c1 c2 c4 (by omega) hr1 a7 (hfz 0) (hfz 2) h2 hne hg hright hlo hhi).mono ?_
          rintro e w' ⟨rfl, g, cap, w1, W, hu, hW, hgr, hfr, hown, rfl⟩
          have hW := hW _ h1
          simp at hW
          have hmW : mb < W.heap.size := Nat.lt_of_lt_of_le hmb hu.size
          have h1W := (hgr.block mb hmW (fun e => hne e.symm)).trans hW
          have hgne : mb ≠ g := by
            intro e
            obtain ⟨cur, hcur⟩ := owns_type hown (k := g) rfl
            exact ne_of_type h1W hcur (by decide) e
          have hupd : Upd F w w1 := (hu.mono (fun k _ e => by simpa [e] using a1)).grown hgr (fun k hk => .inl (h4 k hk))
          rw [ep]
          refine ⟨rfl, hupd.setCell (p := ⟨mb, 0, none⟩) (.inl a1) _, ⟨⟨.slice (some ⟨g, 0, none⟩) (L.length + 1) cap, .slice ga 0 gcap, ?_, ?_, ?_, ?_, ?_⟩, ?_, ?_, hwf', ?_, ?_, ?_, b4, ?_⟩⟩
          · have := heap_setCell_same _ mb 0 _ _ (.slice (some ⟨g, 0, none⟩) (L.length + 1) cap) h1W
            rw [ec, show (M.add r).n = M.n from rfl, show (M.add r).room = M.room from rfl]
            simpa using this
          · have := Upd.owns (F := fun k => k = mb) (Upd.setCell (F := fun k => k = mb) (p := ⟨mb, 0, none⟩) (Upd.refl _ w1) (Or.inl rfl) (.slice (some ⟨g, 0, none⟩) (L.length + 1) cap)) (fun k hk e => hgne (by simp [Value.ownBlock] at hk; omega)) hown
            simpa [List.flatMap_append] using this
          · rw [eg]
            obtain ⟨q1, q2⟩ := h3
            refine ⟨by simp, ?_⟩
            rcases q2 with ⟨q2, _⟩ | ⟨fg, fcap, fcur, q2, q3, q4, q5⟩
            · exact .inl ⟨by simpa using q2, rfl⟩
            · simp at q2
              obtain ⟨rfl, rfl⟩ := q2
              have hfa : fg ≠ mb := ne_of_type q4 h1 (by decide)
              refine .inr ⟨fg, gcap, fcur, rfl, q3, ?_, by simpa using q5⟩
              rw [heap_setCell_other _ _ _ _ hfa]
              have hfc : some fg ≠ lv.ownBlock := by
                intro e
                obtain ⟨cur, hcur⟩ := owns_type h2 e.symm
                exact ne_of_type q4 hcur (by decide) rfl
              rw [hgr.block fg (Nat.lt_of_lt_of_le (lt_of_heap q4) hu.size) hfc, hu.block fg (lt_of_heap q4) hfa]
              exact q4
          · intro k hk
            simp [Value.ownBlock] at hk
            subst hk
            rcases hfr with hfr | hfr
            · exact .inl (h4 _ hfr)
            · refine .inr ⟨Nat.le_trans hu.size hfr, ?_⟩
              obtain ⟨cur, hcur⟩ := owns_type hown (k := g) rfl
              have := lt_of_heap hcur
              rw [World.size_setCell]
              exact this
          · intro k hk
            exact .inl (h5 k hk)
          · exact .inl a1
          · intro k hk
            rcases hk with hk | hk
            · have := a2 k hk
              have := hupd.size
              rw [World.size_setCell]
              omega
            · exact hk.2
          · rw [← ep]; exact b1
          · rw [← ep]; exact b2
          · rw [← ep]; exact b3
          · rw [← ep]; exact b5
        | some id =>
          obtain ⟨gs, hgs⟩ : ∃ gs, M.gone = gs ++ [id] := List.getLast?_eq_some_iff.1 hgo
          have hid := hwf.gone id (by rw [hgs]; simp)
          have ep : putId M.gone M.cs.length = id := by unfold putId; rw [hgo]
          have ec : (M.add r).cs.length = M.cs.length := by unfold St.add putCs; rw [hgo]; simp
          have eg : (M.add r).gone = gs := by unfold St.add; rw [hgs]; simp
          rw [hgs] at h3
          have hlen : (gs ++ [id]).length = gs.length + 1 := by simp
          rw [hlen] at h3
          obtain ⟨fa, gcap, rfl, hfs⟩ := owns_slice h3
          obtain ⟨gb, rfl⟩ := hfs (by simp)
          obtain ⟨fcur, hfcur⟩ := owns_type h3 (k := gb) rfl
          have hgm : gb ≠ mb := ne_of_type hfcur h1 (by decide)
          have hidc : w.cell? ⟨gb, gs.length, none⟩ = some (.int .u32 id) := by
            rw [h3.cellAt gs.length (by omega)]
            simp
          have hgcap : gs.length + 1 ≤ gcap := by
            rcases h3.2 with ⟨q, _⟩ | ⟨_, _, _, q, _, _, q5, _⟩
            · simp at q
            · simp at q
              omega
          have hgl : gs.length < 1048576 := by
            have h6 : M.len = (M.cs.length : Int) - (gs.length + 1 : Nat) := by unfold St.len; rw [hgs]; simp
            have := hwf.len0
            omega
          refine (rfind_free mb r hb1 hb2 M.n M.room lv L.length gs.length gb id (L.flatMap nodeVals) gcap (M.cs.length : Int) w c3 c0 c1 c2 c4 (by omega) hr1 ⟨by omega, by omega⟩ hgl hgcap hidc hgm (hfz 0) (hfz 1) h2 hne hg hright hlo hhi).mono ?_
          rintro e w' ⟨rfl, g, cap, w1, W, hu, hW, hgr, hfr, hown, rfl⟩
          have hW := hW _ h1
          simp at hW
          have hmW : mb < W.heap.size := Nat.lt_of_lt_of_le hmb hu.size
          have h1W := (hgr.block mb hmW (fun e => hne e.symm)).trans hW
          have hgne : mb ≠ g := by
            intro e
            obtain ⟨cur, hcur⟩ := owns_type hown (k := g) rfl
            exact ne_of_type h1W hcur (by decide) e
          have hupd : Upd F w w1 := (hu.mono (fun k _ e => by simpa [e] using a1)).grown hgr (fun k hk => .inl (h4 k hk))
          rw [ep]
          refine ⟨rfl, hupd.setCell (p := ⟨mb, 0, none⟩) (.inl a1) _, ⟨⟨.slice (some ⟨g, 0, none⟩) (L.length + 1) cap, .slice (some ⟨gb, 0, none⟩) gs.length gcap, ?_, ?_, ?_, ?_, ?_⟩, ?_, ?_, hwf', ?_, ?_, ?_, b4, ?_⟩⟩
          · have := heap_setCell_same _ mb 0 _ _ (.slice (some ⟨g, 0, none⟩) (L.length + 1) cap) h1W
            rw [ec, show (M.add r).n = M.n from rfl, show (M.add r).room = M.room from rfl]
            simpa using this
          · have := Upd.owns (F := fun k => k = mb) (Upd.setCell (F := fun k => k = mb) (p := ⟨mb, 0, none⟩) (Upd.refl _ w1) (Or.inl rfl) (.slice (some ⟨g, 0, none⟩) (L.length + 1) cap)) (fun k hk e => hgne (by simp [Value.ownBlock] at hk; omega)) hown
            simpa [List.flatMap_append] using this
          · rw [eg]
            refine ⟨by simp, ?_⟩
            rcases h3.2 with ⟨q2, _⟩ | ⟨fg, fcap', fcur', q2, q3, q4, q5, q6, q7, q8⟩
            · simp at q2
            · simp at q2
              obtain ⟨rfl, rfl⟩ := q2
              have hfc : some gb ≠ lv.ownBlock := by
                intro e
                obtain ⟨cur, hcur⟩ := owns_type h2 e.symm
                exact ne_of_type q4 hcur (by decide) rfl
              refine .inr ⟨gb, gcap, fcur', by simp, q3, ?_, by first | omega | (simp; omega), q6, q7, ?_⟩
              · rw [heap_setCell_other _ _ _ _ hgm, hgr.block gb (Nat.lt_of_lt_of_le (lt_of_heap q4) hu.size) hfc, hu.block gb (lt_of_heap q4) hgm]
                exact q4
              · have := congrArg (List.take gs.length) q8
                rw [List.take_take] at this
                simpa [Nat.min_eq_left] using this
          · intro k hk
            simp [Value.ownBlock] at hk
            subst hk
            rcases hfr with hfr | hfr
            · exact .inl (h4 _ hfr)
            · refine .inr ⟨Nat.le_trans hu.size hfr, ?_⟩
              obtain ⟨cur, hcur⟩ := owns_type hown (k := g) rfl
              have := lt_of_heap hcur
              rw [World.size_setCell]
              exact this
          · intro k hk
            exact .inl (h5 k (by simpa [Value.ownBlock] using hk))
          · exact .inl a1
          · intro k hk
            rcases hk with hk | hk
            · have := a2 k hk
              have := hupd.size
              rw [World.size_setCell]
              omega
            · exact hk.2
          · rw [← ep]; exact b1
          · rw [← ep]; exact b2
          · rw [← ep]; exact b3
          · rw [← ep]; exact b5

end Go.Proofs.Ytimffidpbcflaaa
