/-
  Put into an arena, over how it lies in memory.
-/
import Derived.Test.YtimffidpbcflaaaArena
namespace Go.Proofs.Ytimffidpbcflaaa
set_option linter.unusedSimpArgs false
set_option linter.unusedVariables false
set_option maxHeartbeats 600000
open Go.RowKit

/-- The id that a new thing gets. -/
def putId (gone : List Int) (len : Nat) : Int := match gone.getLast? with | some id => id | none => (len : Int) + 2

/-- The cells behind a Put. -/
def putCs (cs : List (Option Rec)) (gone : List Int) (r : Rec) : List (Option Rec) :=
  match gone.getLast? with | some id => cs.set (id - 2).toNat (some r) | none => cs ++ [some r]

theorem set_len_le {cs : List (Option Rec)} {gone : List Int} {r : Rec} : cs.length ≤ (putCs cs gone r).length := by
  unfold putCs; split <;> simp

theorem grow_left {F : Nat → Prop} {w w' : World} {k : Nat} (h : F k) : Grow F w w' k := .inl h

theorem arena_put_full {F : Nat → Prop} {w : World} {ab : Nat} {cs : List (Option Rec)} {gone : List Int} {cnt room : Int} (h : ArenaRep F w ab cs gone cnt room) (r : Rec) (hfull : room ≤ cnt) :
    Calls Try.prog 78 #[.pointer (some ⟨ab, 0, none⟩), .agg #[.int .u8 r.form, .int .u8 r.top, .int .u8 r.bot, .int .u8 r.lo.tag, .int .u32 r.lo.to, .int .u8 r.hi.tag, .int .u32 r.hi.to]] w fun e w' =>
      e = .returned (.tuple #[.int .u32 0, .bool false]) ∧ Keeps w w' := by
  obtain ⟨⟨cv, fv, h1, _⟩, _⟩ := h
  exact put_full ab r cnt room w (by rw [cell_of_row w ab 2 _ _ _ h1]; rfl) (by rw [cell_of_row w ab 3 _ _ _ h1]; rfl) hfull

theorem arena_put {F : Nat → Prop} {w : World} {ab : Nat} {cs : List (Option Rec)} {gone : List Int} {cnt room : Int} (h : ArenaRep F w ab cs gone cnt room) (r : Rec) (hr : r.ok) (hroom : cnt < room) :
    Calls Try.prog 78 #[.pointer (some ⟨ab, 0, none⟩), .agg #[.int .u8 r.form, .int .u8 r.top, .int .u8 r.bot, .int .u8 r.lo.tag, .int .u32 r.lo.to, .int .u8 r.hi.tag, .int .u32 r.hi.to]] w fun e w' =>
      e = .returned (.tuple #[.int .u32 (putId gone cs.length), .bool true]) ∧ Upd F w w' ∧ ArenaRep (Grow F w w') w' ab (putCs cs gone r) gone.dropLast (cnt + 1) room := by
  have hcell := h.cell
  obtain ⟨⟨cv, fv, h1, h2, h3, h4, h5⟩, a2, a3, a4, a5, a6, a7, a8⟩ := h
  have c0 : w.cell? ⟨ab, 0, none⟩ = some cv := by rw [cell_of_row w ab 0 _ _ _ h1]; rfl
  have c1 : w.cell? ⟨ab, 1, none⟩ = some fv := by rw [cell_of_row w ab 1 _ _ _ h1]; rfl
  have c2 : w.cell? ⟨ab, 2, none⟩ = some (.int .i64 cnt) := by rw [cell_of_row w ab 2 _ _ _ h1]; rfl
  have c3 : w.cell? ⟨ab, 3, none⟩ = some (.int .i64 room) := by rw [cell_of_row w ab 3 _ _ _ h1]; rfl
  have hfz : ∀ o, w.frozen? ⟨ab, o, none⟩ = false := fun o => frozen_of_row w ab o _ _ h1
  have hab := lt_of_heap h1
  cases hg : gone.getLast? with
  | none =>
    have hg0 : gone = [] := by simpa using hg
    subst hg0
    obtain ⟨a1, k1, rfl, _⟩ := owns_slice h3
    have hne : cv.ownBlock ≠ some ab := by
      intro e
      obtain ⟨cur, hcur⟩ := owns_type h2 e
      exact ne_of_type hcur h1 (by decide) rfl
    simp only [List.length_nil] at a4 c1
    refine (put_more ab r cv cs.length (cs.flatMap cellVals) cnt room w a1 k1 c0 c1 c2 c3 hroom a6 a5 (hfz 0) (hfz 2) h2 (by omega) hne).mono ?_
    rintro e w' ⟨rfl, g, cap, w1, W, hu, hW, hgr, hfr, hown, rfl⟩
    have hW := hW _ h1
    simp at hW
    have habW : ab < W.heap.size := Nat.lt_of_lt_of_le hab hu.size
    have h1W : w1.heap[ab]? = some (.cells #[cv, .slice a1 0 k1, .int .i64 (cnt + 1), .int .i64 room] 131 (0, 0)) := (hgr.block ab habW (fun e => hne e.symm)).trans hW
    have hgne : ab ≠ g := by
      intro e
      obtain ⟨cur, hcur⟩ := owns_type hown (k := g) rfl
      exact ne_of_type h1W hcur (by decide) e
    have hupd : Upd F w w1 := (hu.mono (fun k _ e => by simpa [e] using a2)).grown hgr (fun k hk => .inl (h4 k hk))
    refine ⟨by simp [putId], hupd.setCell (p := ⟨ab, 0, none⟩) (.inl a2) _, ⟨⟨.slice (some ⟨g, 0, none⟩) (cs.length + 1) cap, .slice a1 0 k1, ?_, ?_, ?_, ?_, ?_⟩, ?_, ?_, ?_, ?_, a6, ?_, ?_⟩⟩
    · exact heap_setCell_same _ ab 0 _ _ _ h1W
    · have := Upd.owns (F := fun k => k = ab) (Upd.setCell (F := fun k => k = ab) (p := ⟨ab, 0, none⟩) (Upd.refl _ w1) (Or.inl rfl) (.slice (some ⟨g, 0, none⟩) (cs.length + 1) cap)) (fun k hk e => hgne (by simp [Value.ownBlock] at hk; omega)) hown
      simpa [putCs, List.flatMap_append] using this
    · have := World.ownsRow_nil (w1.setCell ⟨ab, 0, none⟩ (.slice (some ⟨g, 0, none⟩) (cs.length + 1) cap)) 0 23 1
      obtain ⟨q1, q2⟩ := h3
      refine ⟨by simp, ?_⟩
      rcases q2 with ⟨q2, _⟩ | ⟨fg, fcap, fcur, q2, q3, q4, q5⟩
      · exact .inl ⟨by simpa using q2, rfl⟩
      · simp at q2
        obtain ⟨rfl, rfl⟩ := q2
        have hfa : fg ≠ ab := ne_of_type q4 h1 (by decide)
        refine .inr ⟨fg, k1, fcur, rfl, q3, ?_, by simpa using q5⟩
        rw [heap_setCell_other _ _ _ _ hfa]
        have hfc : some fg ≠ cv.ownBlock := by
          intro e
          obtain ⟨cur, hcur⟩ := owns_type h2 e.symm
          exact ne_of_type q4 hcur (by decide) rfl
        rw [hgr.block fg (Nat.lt_of_lt_of_le (lt_of_heap q4) hu.size) hfc, hu.block fg (lt_of_heap q4) hfa]
        exact q4
    · intro k hk
      simp [Value.ownBlock] at hk
      subst hk
      rcases hfr with hfr | hfr
      · exact .inl (h4 _ hfr)
      · refine .inr ⟨Nat.le_trans hu.size hfr, ?_⟩
        obtain ⟨cur, hcur⟩ := owns_type hown (k := g) rfl
        have := lt_of_heap hcur
        rw [World.size_setCell]
        exact this
    · intro k hk
      exact .inl (h5 k hk)
    · exact .inl a2
    · simp [putCs]; omega
    · simp [putCs]; omega
    · omega
    · intro id hid
      simp at hid
    · intro x hx
      simp [putCs] at hx
      rcases hx with hx | rfl
      · exact a8 x hx
      · exact hr
  | some id =>
    obtain ⟨gs, hgs⟩ : ∃ gs, gone = gs ++ [id] := List.getLast?_eq_some_iff.1 hg
    subst hgs
    obtain ⟨hid0, hid1⟩ := a7 id (by simp)
    obtain ⟨fa, fcap, rfl, hfs⟩ := owns_slice h3
    obtain ⟨fb, rfl⟩ := hfs (by simp)
    obtain ⟨a, cap, c0', hc⟩ := hcell
    obtain ⟨cb, rfl, hcab, hFcb, hv, hcf⟩ := hc (by omega)
    obtain rfl : cv = .slice (some ⟨cb, 0, none⟩) cs.length cap := by rw [c0] at c0'; simpa using c0'
    obtain ⟨fcur, hfcur⟩ := owns_type h3 (k := fb) rfl
    have hfab : fb ≠ ab := ne_of_type hfcur h1 (by decide)
    have hlen : (gs ++ [id]).length = gs.length + 1 := by simp
    rw [hlen] at c1 h3 a4
    have hidc : w.cell? ⟨fb, gs.length, none⟩ = some (.int .u32 id) := by
      rw [h3.cellAt gs.length (by omega)]
      simp
    have hlt : (id - 2).toNat < cs.length := by omega
    obtain ⟨c, hcc⟩ : ∃ c, cs[(id - 2).toNat]? = some c := ⟨_, List.getElem?_eq_getElem hlt⟩
    have hvv := hv _ _ hcc
    have hfcap : gs.length + 1 ≤ fcap := by
      rcases h3.2 with ⟨q, _⟩ | ⟨_, _, _, q, _, _, q5, _⟩
      · simp at q
      · simp at q
        omega
    have hget : ∀ j, j < 9 → ∃ x, w.cell? ⟨cb, (id - 2).toNat * 9 + j, none⟩ = some x := fun j hj => by
      rw [hvv j hj]
      exact ⟨_, List.getElem?_eq_getElem (by rw [cellVals_length]; exact hj)⟩
    obtain ⟨x0, g0⟩ := hget 0 (by omega)
    obtain ⟨x1, g1⟩ := hget 1 (by omega)
    obtain ⟨x2, g2⟩ := hget 2 (by omega)
    obtain ⟨x3, g3⟩ := hget 3 (by omega)
    obtain ⟨x4, g4⟩ := hget 4 (by omega)
    obtain ⟨x5, g5⟩ := hget 5 (by omega)
    obtain ⟨x6, g6⟩ := hget 6 (by omega)
    obtain ⟨x7, g7⟩ := hget 7 (by omega)
    obtain ⟨x8, g8⟩ := hget 8 (by omega)
    refine (put_free ab cb fb r id gs.length cs.length cap fcap x0 x1 x2 x3 x4 x5 x6 x7 x8 cnt room w c0 c1 c2 c3 hroom a6 a5 (hfz 1) (hfz 2) (by omega) hfcap a3 hidc hid0 (by omega) hid1 g0 g1 g2 g3 g4 g5 g6 g7 g8 hcf hcab hcab.symm hfab).mono ?_
    rintro e w' ⟨rfl, W, O, hu, hW, rfl⟩
    have hW := hW _ h1
    simp at hW
    have u9 := set9_upd cb (cellVals (some r)) ((id - 2).toNat * 9) W
    have h2W := hu.owns (fun k hk e => hcab (by simp [Value.ownBlock] at hk; omega)) h2
    have h9 := set9_owns cellVals cellVals_length rfl h2W (id - 2).toNat hlt (some r)
    have habW : ab < W.heap.size := Nat.lt_of_lt_of_le hab hu.size
    have hupd : Upd F w (set9 W cb ((id - 2).toNat * 9) (cellVals (some r))) := (hu.mono (fun k _ e => by simpa [e] using a2)).trans' (u9.mono (fun k _ e => by simpa [e] using hFcb))
    have k9 : Keeps (set9 W cb ((id - 2).toNat * 9) (cellVals (some r))) (((set9 W cb ((id - 2).toNat * 9) (cellVals (some r))).alloc O).drew) := ((Keeps.refl _).alloc O).drew
    have hfW : W.ownsRow 0 23 1 (.slice (some ⟨fb, 0, none⟩) (gs.length + 1) fcap) (gs.length + 1) ((gs ++ [id]).map (Value.int .u32)) := hu.owns (fun k hk e => hfab (by simp [Value.ownBlock] at hk; omega)) h3
    have hcfb : fb ≠ cb := by
      obtain ⟨cur, hcur⟩ := owns_type h2 (k := cb) rfl
      exact ne_of_type hfcur hcur (by decide)
    have hf9 := u9.owns (fun k hk e => hcfb (by simp [Value.ownBlock] at hk; omega)) hfW
    refine ⟨by simp [putId], (hupd.alloc O).drew, ⟨⟨.slice (some ⟨cb, 0, none⟩) cs.length cap, .slice (some ⟨fb, 0, none⟩) gs.length fcap, ?_, ?_, ?_, ?_, ?_⟩, ?_, ?_, ?_, ?_, a6, ?_, ?_⟩⟩
    · exact k9.heap ((u9.block ab habW (fun e => hcab e.symm)).trans hW)
    · have := k9.owns h9
      simpa [putCs] using this
    · have q := k9.owns hf9
      refine ⟨by simp, ?_⟩
      rcases q.2 with ⟨q2, _⟩ | ⟨fg, fcap', fcur', q2, q3, q4, q5, q6, q7, q8⟩
      · simp at q2
      · simp at q2
        obtain ⟨rfl, rfl⟩ := q2
        refine .inr ⟨fb, fcap, fcur', by simp, q3, q4, by simp; omega, q6, q7, ?_⟩
        have := congrArg (List.take gs.length) q8
        rw [List.take_take] at this
        simpa [Nat.min_eq_left] using this
    · intro k hk
      exact .inl (h4 k hk)
    · intro k hk
      exact .inl (h5 k (by simpa [Value.ownBlock] using hk))
    · exact .inl a2
    · simp [putCs]; omega
    · simp [putCs]; omega
    · omega
    · intro x hx
      simp at hx
      have := a7 x (by simp [hx])
      simpa [putCs] using this
    · intro x hx
      simp [putCs] at hx
      rcases List.mem_or_eq_of_mem_set hx with hx | hx
      · exact a8 x hx
      · simp at hx
        rw [hx]
        exact hr

end Go.Proofs.Ytimffidpbcflaaa
