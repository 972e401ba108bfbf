/-
  Built: a store and the document's, behind records that are found.
-/
import Derived.Test.YtimffidpbcflaaaRef6
import Derived.Deep.LoopGhost
namespace Go.Proofs.Ytimffidpbcflaaa
set_option linter.unusedSimpArgs false
set_option linter.unusedVariables false
set_option maxHeartbeats 600000
open Go.RowKit

/-- Records that came in. -/
def IsRecs (w : World) (a : Option Addr) (len : Nat) (rs : List Rec) : Prop :=
  rs.length = len ∧ ∀ i r, rs[i]? = some r → r.ok ∧ ∃ b off, a = some ⟨b, off, none⟩ ∧ ∀ j, j < 7 → w.cell? ⟨b, off + i * 7 + j, none⟩ = (recVals r)[j]?

theorem Keeps.new {F : Nat → Prop} {w W W1 : World} (h : Keeps w W) (hu : Upd F W W1) (hf : ∀ k, F k → w.heap.size ≤ k) : Keeps w W1 := by
  have hs := h.size
  refine ⟨hu.os.trans h.os, hu.tape.trans h.tape, hu.output.trans h.output, Nat.le_trans hs hu.size, fun k hk => ?_⟩
  rw [hu.block k (by omega) (fun hh => by have := hf k hh; omega), h.block k hk]

/-- A store and the document's, in one world. -/
structure Both (w0 w : World) (sb mb : Nat) (M : St) (L : List (Int × Rec)) : Prop where
  ex : ∃ F G, StoreRep F w sb M ∧ RefRep G w mb M L ∧ (∀ k, F k → ¬ G k) ∧ (∀ k, F k → w0.heap.size ≤ k) ∧ (∀ k, G k → w0.heap.size ≤ k)
  keep : Keeps w0 w

theorem Both.keeps {w0 w W : World} {sb mb : Nat} {M : St} {L : List (Int × Rec)} (h : Both w0 w sb mb M L) (hk : Keeps w W) : Both w0 W sb mb M L := by
  obtain ⟨⟨F, G, h1, h2, h3⟩, h4⟩ := h
  exact ⟨⟨F, G, h1.keeps hk, h2.keeps hk, h3⟩, h4.trans hk⟩

/-- A step of both. -/
theorem Both.step {w0 w w1 w1' w2 : World} {sb mb : Nat} {M M' : St} {L L' : List (Int × Rec)} {F G : Nat → Prop} (h1 : StoreRep F w sb M) (h2 : RefRep G w mb M L) (h3 : ∀ k, F k → ¬ G k) (h4 : ∀ k, F k → w0.heap.size ≤ k) (h5 : ∀ k, G k → w0.heap.size ≤ k) (h6 : Keeps w0 w)
    (u1 : Upd F w w1) (s1 : StoreRep (Grow F w w1) w1 sb M') (k1 : Keeps w1 w1') (u2 : Upd G w1' w2) (s2 : RefRep (Grow G w1' w2) w2 mb M' L') : Both w0 w2 sb mb M' L' := by
  have z0 := h6.size
  have z1 := u1.size
  have z2 := k1.size
  refine ⟨⟨Grow F w w1, Grow G w1' w2, (s1.keeps k1).keep u2 ?_, s2, ?_, ?_, ?_⟩, ((h6.new u1 h4).trans k1).new u2 h5⟩
  · intro k hk hg
    rcases hk with hk | hk
    · exact h3 k hk hg
    · have := h2.lt k hg
      omega
  · intro k hk hg
    have hl := s1.lt k hk
    rcases hg with hg | hg
    · rcases hk with hk | hk
      · exact h3 k hk hg
      · have := h2.lt k hg
        omega
    · omega
  · intro k hk
    rcases hk with hk | hk
    · exact h4 k hk
    · omega
  · intro k hk
    rcases hk with hk | hk
    · exact h5 k hk
    · omega

set_option maxRecDepth 100000 in
theorem built (n room : Int) (a : Option Addr) (len cap : Nat) (rs : List Rec) (w : World) (h0 : 0 ≤ n) (h1 : n ≤ 16) (h2 : 0 ≤ room) (h3 : room ≤ 1048576) (hl : len ≤ 1048576) (hrs : IsRecs w a len rs) :
    Calls Try.prog 15 #[.int .i64 n, .int .i64 room, .slice a len cap] w fun e w' => ∃ sb mb M L, e = .returned (.tuple #[.pointer (some ⟨sb, 0, none⟩), .pointer (some ⟨mb, 0, none⟩), .bool true]) ∧ Both w w' sb mb M L := by
  have HR := Lib.hid hrs
  clear hrs
  go_enter Try.func15, Try.ntmps15
  go_wp2_with (go_at_call 41; refine (store_new n room _ h0 h1 h2 h3).mono ?_; rintro e w1 ⟨sb, F, rfl, hk, hF, hS⟩)
  have hB0 : Both w (w1.alloc (.cells #[.slice none 0 0, .slice none 0 0, .int .u32 0, .int .i64 n, .int .i64 room] 83)) sb w1.heap.size (St.new n room) [] := by
    refine ⟨⟨F, fun k => k = w1.heap.size, hS.keeps ((Keeps.refl _).alloc _), ?_, ?_, hF, ?_⟩, hk.alloc _⟩
    · refine ⟨⟨.slice none 0 0, .slice none 0 0, heap_alloc_new w1 _, World.ownsRow_nil _ _ _ _, World.ownsRow_nil _ _ _ _, fun k hk => by simp [Value.ownBlock] at hk, fun k hk => by simp [Value.ownBlock] at hk⟩, rfl, ?_, St.new_wf h0 h1 h2 h3, ?_, ?_, ?_, ?_, ?_⟩
      · intro k hk; subst hk; simp
      · intro id r; simp [St.new, look_nil]
      · simp
      · simp [St.len, St.new]
      · simp [St.new]
      · intro p hp; simp at hp
    · intro k hk e
      subst e
      exact Nat.lt_irrefl _ (hS.lt _ hk)
    · intro k e
      subst e
      exact hk.size
  clear hS hF
  have hmb : ∃ mb, mb = w1.heap.size := ⟨_, rfl⟩
  go_loopg [12] len (fun gk i wr => ∃ (d : Nat) (M : St) (L : List (Int × Rec)), d + gk = len ∧ i = .int .i64 (d : Int) ∧ Both w wr sb w1.heap.size M L)
  case atStart => exact ⟨0, _, _, by omega, rfl, hB0⟩
  case round =>
    obtain ⟨d, M, L, hd, rfl, hB⟩ := hrel
    by_cases hlt : d < len
    · obtain ⟨r, hr⟩ : ∃ r, rs[d]? = some r := ⟨_, List.getElem?_eq_getElem (by rw [HR.out.1]; exact hlt)⟩
      obtain ⟨hok, b, off, rfl, hc⟩ := HR.out.2 d r hr
      have hsv := fun j hj => (hc j hj).trans (List.getElem?_eq_getElem (show j < (recVals r).length from hj))
      have s0 := hsv 0 (by omega)
      have s1 := hsv 1 (by omega)
      have s2 := hsv 2 (by omega)
      have s3 := hsv 3 (by omega)
      have s4 := hsv 4 (by omega)
      have s5 := hsv 5 (by omega)
      have s6 := hsv 6 (by omega)
      simp [recVals] at s0 s1 s2 s3 s4 s5 s6
      clear hsv hc
      obtain ⟨⟨F', G', q1, q2, q3, q4, q5⟩, q6⟩ := hB
      have t0 := q6.cell s0
      have t1 := q6.cell s1
      have t2 := q6.cell s2
      have t3 := q6.cell s3
      have t4 := q6.cell s4
      have t5 := q6.cell s5
      have t6 := q6.cell s6
      have HS := Lib.hid q1
      have HM := Lib.hid q2
      have HD := Lib.hid q3
      have H4 := Lib.hid q4
      have H5 := Lib.hid q5
      have H6 := Lib.hid q6
      have HC := Lib.hid (And.intro s0 (And.intro s1 (And.intro s2 (And.intro s3 (And.intro s4 (And.intro s5 s6))))))
      clear q1 q2 q3 q4 q5 q6 s0 s1 s2 s3 s4 s5 s6
      have hb0 : b < wr.heap.size := lt_of_cell t0
      go_wp2_with (first | (go_at_call 42; refine (store_find HS.out r hok).mono ?_; rintro e w2 ⟨rfl, hu, hS2⟩; have hkk := Lib.hid (H6.out.new hu H4.out); have v0 := hkk.out.cell HC.out.1; have v1 := hkk.out.cell HC.out.2.1; have v2 := hkk.out.cell HC.out.2.2.1; have v3 := hkk.out.cell HC.out.2.2.2.1; have v4 := hkk.out.cell HC.out.2.2.2.2.1; have v5 := hkk.out.cell HC.out.2.2.2.2.2.1; have v6 := hkk.out.cell HC.out.2.2.2.2.2.2; have HU := Lib.hid hu; have HS2 := Lib.hid hS2; clear hu hS2 t0 t1 t2 t3 t4 t5 t6) | (go_at_call 59; refine (ref_find (HM.out.keep HU.out (fun k hk hf => HD.out k hf hk)) r hok).mono ?_; rintro e w3 ⟨rfl, hu3, hS3⟩; have hB3 := Both.step HS.out HM.out HD.out H4.out H5.out H6.out HU.out HS2.out (Keeps.refl _) hu3 hS3) | fail)
      go_roundg (gk - 1)
      case rel => exact ⟨d + 1, _, _, by omega, by simp, hB3⟩
      case measure => omega
    · go_wp2
      exact bodyPost_ret (v := .tuple #[.pointer (some ⟨sb, 0, none⟩), .pointer (some ⟨w1.heap.size, 0, none⟩), .bool true]) (by simp [results, Try.results15, go_sem]) rfl ⟨sb, w1.heap.size, M, L, rfl, hB⟩

end Go.Proofs.Ytimffidpbcflaaa
