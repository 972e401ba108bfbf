/-
  ramageref05.Value, ramageref17.Is, ramageref17.May; the rounds of ramageref17.Holds where a level is left out.
-/
import Derived.Test.YtoeoehbpahodnaaGreatPOrderN
import Derived.Test.YtoeoehbpahodnaaGreatPSwTerm
import Derived.Test.YtoeoehbpahodnaaGreatPUnfBasexB
namespace Go.Proofs.YtoeoehbpahodnaaGreat
set_option linter.unusedSimpArgs false
set_option linter.unusedVariables false
set_option maxHeartbeats 600000
open Go.RowKit

def bitI (b : Bool) : Int := if b then 1 else 0

theorem value_calls (x k : Int) (w : World) (hx0 : 0 ≤ x) (hx1 : x ≤ 65535) (hk0 : 0 ≤ k) (hk1 : k ≤ 16) :
    Calls Tryz.prog 104 #[.int .i64 x, .int .i64 k] w fun e w' => e = .returned (.int .i64 (bitI (bitB x k))) ∧ w = w' := by
  obtain ⟨n, rfl⟩ : ∃ n : Nat, k = (n : Int) := ⟨k.toNat, by omega⟩
  have HS := Lib.hid (size_calls n (by omega) w)
  have hp1 : 2 ^ n ≤ 2 ^ 16 := Nat.pow_le_pow_right (by decide) (by omega)
  have hp0 : 0 < 2 ^ n := Nat.pow_pos (by decide)
  have e16 : (2 : Nat) ^ 16 = 65536 := rfl
  have hv : bitI (bitB x n) = x / ((2 ^ n : Nat) : Int) % 2 := by
    unfold bitI bitB
    have e1 : ((2 ^ n : Nat) : Int) = 2 ^ (n : Int).toNat := by push_cast; rfl
    rw [e1]
    by_cases h : x / 2 ^ (n : Int).toNat % 2 = 1
    · rw [decide_eq_true h, h]; rfl
    · rw [decide_eq_false h]; show (0 : Int) = _; omega
  rw [hv]
  obtain ⟨p, hp⟩ : ∃ p, p = 2 ^ n := ⟨_, rfl⟩
  rw [← hp] at HS hp1 hp0 ⊢
  rw [e16] at hp1
  clear hp hv
  have pp : (p : Int) ≠ 0 := by omega
  have g0 : ((p : Int) == 0) = false := by simp; omega
  have e1 : x.tdiv (p : Int) = x / (p : Int) := Int.tdiv_eq_ediv_of_nonneg hx0
  have hq0 : 0 ≤ x / (p : Int) := Int.ediv_nonneg hx0 (by omega)
  have hq1 : x / (p : Int) ≤ x := Int.ediv_le_self _ hx0
  have e2 : (x / (p : Int)).tmod 2 = x / (p : Int) % 2 := Int.tmod_eq_emod_of_nonneg hq0
  go_enter Tryz.func104, Tryz.ntmps104
  go_wp2_with (first | (go_at_call 64; refine HS.out.mono ?_; rintro e w' ⟨rfl, rfl⟩) | fail)
  go_ret
  exact ⟨by rfl, rfl⟩

end Go.Proofs.YtoeoehbpahodnaaGreat

namespace Go.Proofs.YtoeoehbpahodnaaGreat
set_option linter.unusedSimpArgs false
set_option linter.unusedVariables false
set_option maxHeartbeats 600000
open Go.RowKit

def IsRoots (w : World) (a : Option Addr) (rs : List (Int × Edge)) : Prop :=
  ∀ i r, rs[i]? = some r → (0 ≤ r.1 ∧ r.1 ≤ 255) ∧ r.2.ok ∧ ∃ b off, a = some ⟨b, off, none⟩ ∧ w.cell? ⟨b, off + i * 3, none⟩ = some (.int .u8 r.1) ∧ w.cell? ⟨b, off + i * 3 + 1, none⟩ = some (.int .u8 r.2.tag) ∧ w.cell? ⟨b, off + i * 3 + 2, none⟩ = some (.int .u32 r.2.to)

theorem IsRoots.keeps {w w' : World} {a : Option Addr} {rs : List (Int × Edge)} (h : IsRoots w a rs) (hk : Keeps w w') : IsRoots w' a rs := fun i r hr => by
  obtain ⟨h1, h2, b, off, ha, c0, c1, c2⟩ := h i r hr
  exact ⟨h1, h2, b, off, ha, hk.cell c0, hk.cell c1, hk.cell c2⟩

def IsForms (w : World) (a : Option Addr) (fs : List Int) : Prop := ∀ i f, fs[i]? = some f → ∃ b off, a = some ⟨b, off, none⟩ ∧ w.cell? ⟨b, off + i, none⟩ = some (.int .u8 f)

theorem IsForms.keeps {w w' : World} {a : Option Addr} {fs : List Int} (h : IsForms w a fs) (hk : Keeps w w') : IsForms w' a fs := fun i f hf => by
  obtain ⟨b, off, ha, c⟩ := h i f hf
  exact ⟨b, off, ha, hk.cell c⟩

def EdgesAt (w : World) (a : Option Addr) (es : List Edge) : Prop := ∀ i e, es[i]? = some e → e.ok ∧ ∃ b off, a = some ⟨b, off, none⟩ ∧ w.cell? ⟨b, off + i * 2, none⟩ = some (.int .u8 e.tag) ∧ w.cell? ⟨b, off + i * 2 + 1, none⟩ = some (.int .u32 e.to)

theorem EdgesAt.keeps {w w' : World} {a : Option Addr} {es : List Edge} (h : EdgesAt w a es) (hk : Keeps w w') : EdgesAt w' a es := fun i e he => by
  obtain ⟨h1, b, off, ha, c0, c1⟩ := h i e he
  exact ⟨h1, b, off, ha, hk.cell c0, hk.cell c1⟩

end Go.Proofs.YtoeoehbpahodnaaGreat

namespace Go.Proofs.YtoeoehbpahodnaaGreat
set_option linter.unusedSimpArgs false
set_option linter.unusedVariables false
set_option maxHeartbeats 600000
open Go.RowKit

def RowE (w : World) (g : Nat) (es : List Edge) : Prop := ∃ cur : Array Value, w.heap[g]? = some (.cells cur 43 (0, 0)) ∧ ∀ (i : Nat) (e : Edge), es[i]? = some e → cur[i * 2]? = some (Value.int .u8 e.tag) ∧ cur[i * 2 + 1]? = some (Value.int .u32 e.to)

theorem RowE.cell {w : World} {g : Nat} {es : List Edge} (h : RowE w g es) {i : Nat} {e : Edge} (hx : es[i]? = some e) : w.cell? ⟨g, i * 2, none⟩ = some (.int .u8 e.tag) ∧ w.cell? ⟨g, i * 2 + 1, none⟩ = some (.int .u32 e.to) := by
  obtain ⟨cur, h1, h2⟩ := h
  obtain ⟨a, b⟩ := h2 i e hx
  exact ⟨by rw [cell_of_row w g _ _ _ _ h1]; simp only [a], by rw [cell_of_row w g _ _ _ _ h1]; simp only [b]⟩

theorem RowE.frozen {w : World} {g : Nat} {es : List Edge} (h : RowE w g es) (i : Nat) : w.frozen? ⟨g, i, none⟩ = false := by
  obtain ⟨cur, h1, h2⟩ := h
  exact frozen_of_row w g i _ _ h1

theorem RowE.lt {w : World} {g : Nat} {es : List Edge} (h : RowE w g es) : g < w.heap.size := by
  obtain ⟨cur, h1, h2⟩ := h
  exact lt_of_heap h1

theorem RowE.keep {G : Nat → Prop} {w w' : World} {g : Nat} {es : List Edge} (h : RowE w g es) (hu : Upd G w w') (hg : ¬ G g) : RowE w' g es := by
  have hl := h.lt
  obtain ⟨cur, h1, h2⟩ := h
  exact ⟨cur, (hu.block g hl hg).trans h1, h2⟩

theorem RowE.keeps {w w' : World} {g : Nat} {es : List Edge} (h : RowE w g es) (hk : Keeps w w') : RowE w' g es := h.keep (hk.upd (fun _ => False)) (fun h => h)

theorem RowE.at {w : World} {g : Nat} {es : List Edge} (h : RowE w g es) (hok : ∀ e ∈ es, e.ok) : EdgesAt w (some ⟨g, 0, none⟩) es := fun i e he => ⟨hok e (List.mem_of_getElem? he), g, 0, rfl, by rw [Nat.zero_add]; exact (h.cell he).1, by rw [Nat.zero_add]; exact (h.cell he).2⟩

theorem RowE.set {w : World} {g : Nat} {es : List Edge} (h : RowE w g es) (i : Nat) (e : Edge) (hi : i < es.length) : RowE ((w.setCell ⟨g, i * 2, none⟩ (.int .u8 e.tag)).setCell ⟨g, i * 2 + 1, none⟩ (.int .u32 e.to)) g (es.set i e) := by
  obtain ⟨cur, h1, h2⟩ := h
  have h3 := Go.heap_setCell_same w g (i * 2) _ _ (.int .u8 e.tag) h1
  refine ⟨_, Go.heap_setCell_same _ g (i * 2 + 1) _ _ (.int .u32 e.to) h3, fun j x hx => ?_⟩
  obtain ⟨a, b⟩ := h2 i es[i] (by simp [hi])
  have l1 := (Array.getElem?_eq_some_iff.1 a).1
  have l2 := (Array.getElem?_eq_some_iff.1 b).1
  by_cases hj : i = j
  · subst hj
    simp [hi] at hx
    subst hx
    constructor
    · rw [Array.getElem?_setIfInBounds, if_neg (by omega), Array.getElem?_setIfInBounds, if_pos rfl, if_pos l1]
    · rw [Array.getElem?_setIfInBounds, if_pos rfl, if_pos (by simpa using l2)]
  · rw [List.getElem?_set_ne hj] at hx
    obtain ⟨c, d⟩ := h2 j x hx
    constructor
    · rw [Array.getElem?_setIfInBounds, if_neg (by omega), Array.getElem?_setIfInBounds, if_neg (by omega)]
      exact c
    · rw [Array.getElem?_setIfInBounds, if_neg (by omega), Array.getElem?_setIfInBounds, if_neg (by omega)]
      exact d

end Go.Proofs.YtoeoehbpahodnaaGreat

namespace Go.Proofs.YtoeoehbpahodnaaGreat
set_option linter.unusedSimpArgs false
set_option linter.unusedVariables false
set_option maxHeartbeats 600000
open Go.ChangeShapes Go.WideShapes Go.ChangeAt Go.RowKit

def IsInts (w : World) (a : Option Addr) (len : Nat) (ps : List Int) : Prop := ps.length = len ∧ IntsAt w a ps ∧ ∀ x ∈ ps, (Lit.int .i64 x).wf = true

set_option maxRecDepth 100000 in
theorem open_intRow {H : Type} {enc : TypeId × Value → H} {W : World} {base : Nat} {spare : Nat → Bool} {held : Bool} {a : Option Addr} {len cap : Nat} {d : DataW H} {p : List MemPlace}
    (h : DataW.Trod enc Tryz.prog W base spare held 22 (.slice a len cap) d p) : ∃ ps : List Int, IsInts W a len ps := by
  obtain ⟨rs, h1, h2⟩ := open_structs (k := 1) (fun (r : Int) cs => (Lit.int .i64 r).wf = true ∧ cs = [.int .i64 r]) Tryz.underlying22 (by kernel_rfl) (by decide) (fun n cs x hx => by
    obtain ⟨r, h1, _, h2⟩ := DataW.trod_int Tryz.underlying3 hx
    exact ⟨by rw [h1]; rfl, r, h2, h1⟩) h
  refine ⟨rs, h1, fun i r hr => ?_, fun x hx => ?_⟩
  · obtain ⟨b, off, cs, ha, ⟨hok, rfl⟩, hc⟩ := h2 i r hr
    have := hc 0 (by decide)
    rw [Nat.mul_one, Nat.add_zero] at this
    exact ⟨b, off, ha, this⟩
  · obtain ⟨i, hi⟩ := List.mem_iff_getElem?.1 hx
    obtain ⟨b, off, cs, ha, ⟨hok, rfl⟩, hc⟩ := h2 i x hi
    exact hok

instance : Inhabited (Int × Edge) := ⟨(0, Edge.zero)⟩

end Go.Proofs.YtoeoehbpahodnaaGreat
