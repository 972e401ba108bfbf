/-
  Get of an index, whole.
-/
import Derived.Test.YtimffidpbcflaaaIndex2
namespace Go.Proofs.Ytimffidpbcflaaa
set_option linter.unusedSimpArgs false
set_option linter.unusedVariables false
set_option maxHeartbeats 600000
open Go.RowKit

theorem iget_mid {F : Nat → Prop} {w : World} {ib : Nat} {ts : Tab} {n : Int} (h : IndexRep F w ib ts n) (r x : Rec) (k : Nat) (c : Option (Rec × Int)) (id : Int) (b : Bool) (hc : ts[k]? = some c) (hx : slotVals c = recVals x ++ [.int .u32 id, .bool b])
    (hfind : ∀ W, Keeps w W → Calls Try.prog 108 #[.pointer (some ⟨ib, 0, none⟩), .agg #[.int .u8 r.form, .int .u8 r.top, .int .u8 r.bot, .int .u8 r.lo.tag, .int .u32 r.lo.to, .int .u8 r.hi.tag, .int .u32 r.hi.to]] W fun e w' => e = .returned (.int .i64 (k : Int)) ∧ Keeps W w') :
    Calls Try.prog 76 #[.pointer (some ⟨ib, 0, none⟩), .agg #[.int .u8 r.form, .int .u8 r.top, .int .u8 r.bot, .int .u8 r.lo.tag, .int .u32 r.lo.to, .int .u8 r.hi.tag, .int .u32 r.hi.to]] w fun e w' => e = .returned (.tuple #[.int .u32 (if b then id else 0), .bool b]) ∧ Keeps w w' := by
  obtain ⟨tb, cap, c0, c1, _, hne, hv, hf, _⟩ := h.open
  have hk := (List.getElem?_eq_some_iff.1 hc).1
  have hv := hv k c hc
  rw [hx] at hv
  have e0 : w.cell? ⟨tb, k * 9, none⟩ = some (.int .u8 x.form) := hv 0 (by omega)
  have e1 : w.cell? ⟨tb, k * 9 + 1, none⟩ = some (.int .u8 x.top) := hv 1 (by omega)
  have e2 : w.cell? ⟨tb, k * 9 + 2, none⟩ = some (.int .u8 x.bot) := hv 2 (by omega)
  have e3 : w.cell? ⟨tb, k * 9 + 3, none⟩ = some (.int .u8 x.lo.tag) := hv 3 (by omega)
  have e4 : w.cell? ⟨tb, k * 9 + 4, none⟩ = some (.int .u32 x.lo.to) := hv 4 (by omega)
  have e5 : w.cell? ⟨tb, k * 9 + 5, none⟩ = some (.int .u8 x.hi.tag) := hv 5 (by omega)
  have e6 : w.cell? ⟨tb, k * 9 + 6, none⟩ = some (.int .u32 x.hi.to) := hv 6 (by omega)
  have e7 : w.cell? ⟨tb, k * 9 + 7, none⟩ = some (.int .u32 id) := hv 7 (by omega)
  have e8 : w.cell? ⟨tb, k * 9 + 8, none⟩ = some (.bool b) := hv 8 (by omega)
  exact iget_low ib tb ts.length cap k r x id b w c0 h.most hk e0 e1 e2 e3 e4 e5 e6 e7 e8 hfind

/-- Get: the number of a key, if it has one. -/
theorem index_get {F : Nat → Prop} {w : World} {ib : Nat} {ts : Tab} {n : Int} (h : IndexRep F w ib ts n) (r : Rec) (hr : r.ok) (o : Option Int) (ho : ∀ id, Tab.has ts r id ↔ o = some id) :
    Calls Try.prog 76 #[.pointer (some ⟨ib, 0, none⟩), .agg #[.int .u8 r.form, .int .u8 r.top, .int .u8 r.bot, .int .u8 r.lo.tag, .int .u32 r.lo.to, .int .u8 r.hi.tag, .int .u32 r.hi.to]] w fun e w' => e = .returned (.tuple #[.int .u32 (o.getD 0), .bool o.isSome]) ∧ Keeps w w' := by
  obtain ⟨D, hD⟩ := ends_of (H := homeN) r h.room
  have hfind : ∀ W, Keeps w W → Calls Try.prog 108 #[.pointer (some ⟨ib, 0, none⟩), .agg #[.int .u8 r.form, .int .u8 r.top, .int .u8 r.bot, .int .u8 r.lo.tag, .int .u32 r.lo.to, .int .u8 r.hi.tag, .int .u32 r.hi.to]] W fun e w' => e = .returned (.int .i64 (((homeN r ts.length + D) % ts.length : Nat) : Int)) ∧ Keeps W w' := fun W hW => index_find (h.keeps hW) r hr D hD
  rcases hD.stop with hs | ⟨id, hs⟩
  · have hn : o = none := by
      cases ho' : o with
      | none => rfl
      | some id =>
        have := hD.found h.ok ((ho id).2 ho')
        rw [hs] at this
        simp at this
    subst hn
    exact (iget_mid h r Rec.zero _ none 0 false hs rfl hfind).mono fun e w' he => ⟨he.1, he.2⟩
  · have hn : o = some id := (ho id).1 ⟨_, hs⟩
    subst hn
    exact (iget_mid h r r _ (some (r, id)) id true hs rfl hfind).mono fun e w' he => ⟨he.1, he.2⟩

end Go.Proofs.Ytimffidpbcflaaa
