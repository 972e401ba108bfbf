/-
  convert.Each over the state.
-/
import Derived.Test.YtiacdpoldgfpbaaPConvU
import Derived.Maps.AppendAt
namespace Go.Proofs.Ytiacdpoldgfpbaa
set_option linter.unusedSimpArgs false
set_option linter.unusedVariables false
set_option maxHeartbeats 600000
open Go.RowKit

theorem info_edgeE : (Try.prog.info? 24).map (fun i => (i.zero, i.size, i.bytes)) = some (some (.agg #[.int .u8 0, .int .u32 0]), 2, 8) := by kernel_rfl

def edgeCs (e : Edge) : List Value := [.int .u8 e.tag, .int .u32 e.to]

theorem each_pow {k : Nat} (h : k ≤ 6) : 2 ^ k ≤ 64 := by
  have : 2 ^ k ≤ 2 ^ 6 := Nat.pow_le_pow_right (by decide) h
  have e : (2 : Nat) ^ 6 = 64 := rfl
  omega

theorem to_fits {G : Nat → Prop} {wr w' : World} {sb : Nat} {f g : Int} {M : St} {e : Edge} {r : Ending} (h : ToOut G wr sb f g M e r w') (h0 : 0 ≤ M.n) (h6 : M.n ≤ 6) (hroom : M.len + 126 < M.room) (hc : convC M f g e = 0) :
    ∃ (M' : St) (x : Edge) (G' : Nat → Prop), r = .returned (.tuple #[.agg #[.int .u8 x.tag, .int .u32 x.to], .int .u8 0]) ∧ x.ok ∧ Upd G wr w' ∧ (∀ j, G' j → G j ∨ wr.heap.size ≤ j) ∧ StoreRep G' w' sb M' ∧ Ext M M' ∧ M'.room = M.room ∧ M'.len ≤ M.len + 126 ∧ GoodC f g M' e 0 x := by
  obtain ⟨M', V', x, er, F', rfl, hx, hu, hF, hS', hh⟩ := h
  have hp := each_pow (k := (M.n - 0).toNat) (by omega)
  rcases hh with ⟨c1, -⟩ | ⟨-, -, c3⟩
  · exact absurd hc c1
  · have her : er = 0 := c3.room0 (by omega)
    subst her
    have h1 := c3.len
    have h2 := c3.few
    simp only [List.length_nil] at h1 h2
    exact ⟨M', x, F', rfl, hx, hu, hF, hS', c3.ext, c3.room, by omega, c3.good rfl⟩

structure EachInv (F : Nat → Prop) (w wr : World) (sb : Nat) (f : Int) (M0 : St) (e : Edge) (i : Nat) (M : St) (G : Nat → Prop) (xs : List Edge) (v : Value) : Prop where
  rep : StoreRep G wr sb M
  sub : ∀ j, G j → F j ∨ w.heap.size + 1 ≤ j
  upd : Upd F w wr
  b0 : wr.cell? ⟨w.heap.size, 0, none⟩ = some (.int .u8 e.tag)
  b1 : wr.cell? ⟨w.heap.size, 1, none⟩ = some (.int .u32 e.to)
  row : wr.ownsRow (w.heap.size + 1) 24 2 v i (xs.flatMap edgeCs)
  own : ∀ k, v.ownBlock = some k → ¬ G k
  len : xs.length = i
  ext : Ext M0 M
  room : M.room = M0.room
  few : M.len ≤ M0.len + 126 * (i : Int)
  good : ∀ g : Nat, g < i → ∃ x, xs[g]? = some x ∧ x.ok ∧ GoodC f ((g : Int) + 1) M e 0 x

def EachOut (F : Nat → Prop) (w : World) (sb : Nat) (f : Int) (M0 : St) (e : Edge) (r : Ending) (w' : World) : Prop :=
  ∃ (M : St) (G : Nat → Prop) (xs : List Edge) (v : Value), r = .returned (.tuple #[v, .int .u8 0]) ∧ EachInv F w w' sb f M0 e 5 M G xs v

theorem each_conv {M M' : St} {f g : Int} {e : Edge} (hE : Ext M M') (hc : convC M f 1 e = 0) (hg : 1 ≤ g ∧ g ≤ 5) : convC M' f g e = 0 := by
  obtain ⟨hf, -, hl⟩ := convC_zero hc
  unfold convC
  have hb : ∀ x : Int, 1 ≤ x ∧ x ≤ 5 → isFormB x = true := fun x hx => by
    unfold isFormB
    simpa using hx
  rw [if_neg (by rw [hb f hf, hb g hg]; simp), if_neg (by rw [hE.leads hl]; simp)]

set_option maxRecDepth 100000 in
set_option maxHeartbeats 2000000 in
theorem each_calls {F : Nat → Prop} {w : World} {sb : Nat} {M0 : St} (h : StoreRep F w sb M0) (f : Int) (e : Edge) (he : e.ok) (hf : 0 ≤ f ∧ f ≤ 255) (h0 : 0 ≤ M0.n) (h6 : M0.n ≤ 6) (hroom : M0.len + 630 < M0.room) (hroom2 : M0.room < 1048576) (hc : convC M0 f 1 e = 0) :
    Calls Try.prog 13 #[.pointer (some ⟨sb, 0, none⟩), .int .u8 f, .agg #[.int .u8 e.tag, .int .u32 e.to]] w (EachOut F w sb f M0 e) := by
  obtain ⟨i0, hi, hz0, hz1, hz2⟩ := info_parts info_edgeE
  have hI0 : EachInv F w (w.alloc (.cells #[.int .u8 e.tag, .int .u32 e.to] 24)) sb f M0 e 0 M0 F [] (.slice none 0 0) := by
    have ka := (Keeps.refl w).alloc (.cells #[.int .u8 e.tag, .int .u32 e.to] 24)
    exact ⟨h.keeps ka, fun j hj => .inl hj, Keeps.upd ka _, by simp [go_sem], by simp [go_sem], World.ownsRow_nil _ _ _ _, fun k hk => by simp [Value.ownBlock] at hk, rfl, Ext.refl _, rfl, by omega, fun g hg => by omega⟩
  have HI0 := Lib.hid hI0
  have HS := Lib.hid h
  have HC := Lib.hid hc
  have HE := Lib.hid he
  have HR := Lib.hid (⟨hroom, hroom2, h0, h6⟩ : M0.len + 630 < M0.room ∧ M0.room < 1048576 ∧ 0 ≤ M0.n ∧ M0.n ≤ 6)
  clear hI0 h hc he hroom hroom2 h0 h6
  go_enter Try.func13, Try.ntmps13
  go_wp2_with fail
  obtain ⟨W0, hW0⟩ : ∃ W0, W0 = w.alloc (.cells #[.int .u8 e.tag, .int .u32 e.to] 24) := ⟨_, rfl⟩
  rw [← hW0] at HI0 ⊢
  clear hW0
  go_loopg [8, 9] 5 (fun gk s8 s9 wr => ∃ (i : Nat) (M : St) (G : Nat → Prop) (xs : List Edge), i + gk = 5 ∧ s9 = .int .u8 ((i + 1 : Nat) : Int) ∧ EachInv F w wr sb f M0 e i M G xs s8)
  case atStart => exact ⟨0, _, _, _, rfl, rfl, HI0.out⟩
  case round =>
    obtain ⟨i, M, G, xs, hig, rfl, hI⟩ := hrel
    have HI := Lib.hid hI
    obtain ⟨va, vcap, rfl, hvs⟩ := owns_slice hI.row
    have b0 := hI.b0
    have b1 := hI.b1
    clear hI hvs
    by_cases hlt : i < 5
    · have hTo := fun (W : World) (hW : W = wr) => (by
        subst hW
        exact (to_calls HI.out.rep f ((i + 1 : Nat) : Int) e HE.out (by have := HI.out.room; have := HR.out; omega)).mono fun r w' hh => to_fits hh (by have := HI.out.ext.n; have := HR.out; omega) (by have := HI.out.ext.n; have := HR.out; omega) (by have := HI.out.room; have := HI.out.few; have := HR.out; omega) (each_conv HI.out.ext HC.out (by omega)))
      have HTo := Lib.hid hTo
      clear hTo
      go_wp2_with fail
      refine (HTo.out _ rfl).mono ?_
      rintro r w6 ⟨M2, x, G2, rfl, hx, hu, hG2, hS2, hE, hRm, hL, hgd⟩
      have hrow6 := Upd.owns hu HI.out.own HI.out.row
      have s6 := hu.size
      have hsz := HI.out.b0
      have lw : w.heap.size < wr.heap.size := lt_of_cell hsz
      have nG2 : ∀ k, Value.ownBlock (.slice va i vcap) = some k → ¬ G2 k ∧ k < w6.heap.size ∧ w.heap.size + 1 ≤ k := fun k hk => by
        have hb : k < wr.heap.size ∧ w.heap.size + 1 ≤ k := by
          rcases HI.out.row.2 with ⟨q, _⟩ | ⟨g, cap', cur, q, hbg, hcell, _⟩
          · rw [q] at hk; simp [Value.ownBlock] at hk
          · rw [q] at hk
            simp [Value.ownBlock] at hk
            exact ⟨hk ▸ (by first | exact lt_of_heap hcell | omega), by omega⟩
        refine ⟨fun hg => ?_, by omega, hb.2⟩
        rcases hG2 k hg with q | q
        · exact HI.out.own k hk q
        · omega
      have nb : ¬ G2 w.heap.size := fun hg => by
        rcases hG2 _ hg with q | q
        · rcases HI.out.sub _ q with q2 | q2
          · have := HS.out.lt _ q2; omega
          · omega
        · omega
      have nbG : ¬ G w.heap.size := fun q => by
        rcases HI.out.sub _ q with q2 | q2
        · have := HS.out.lt _ q2; omega
        · omega
      have b06 := hu.cellAt nbG b0
      have b16 := hu.cellAt nbG b1
      have HRW := Lib.hid hrow6
      have HN2 := Lib.hid nG2
      have HX := Lib.hid (⟨hx, hu, hG2, hS2⟩ : x.ok ∧ Upd G wr w6 ∧ (∀ j, G2 j → G j ∨ wr.heap.size ≤ j) ∧ StoreRep G2 w6 sb M2)
      have HY := Lib.hid (⟨hE, hRm, hL, hgd⟩ : Ext M M2 ∧ M2.room = M.room ∧ M2.len ≤ M.len + 126 ∧ GoodC f ((i + 1 : Nat) : Int) M2 e 0 x)
      have HB := Lib.hid (⟨b06, b16⟩ : w6.cell? ⟨w.heap.size, 0, none⟩ = some (.int .u8 e.tag) ∧ w6.cell? ⟨w.heap.size, 1, none⟩ = some (.int .u32 e.to))
      have HNB := Lib.hid (⟨nb, nbG⟩ : ¬ G2 w.heap.size ∧ ¬ G w.heap.size)
      clear hrow6 nG2 hx hu hG2 hS2 hE hRm hL hgd b06 b16 nb nbG b0 b1 hsz
      have HCN : ∀ j u, ([.int .u8 x.tag, .int .u32 x.to] : List Value)[j]? = some u → ((w6.alloc (.cells #[.int .u8 x.tag, .int .u32 x.to] 24)).alloc (.cells #[.int .u8 x.tag, .int .u32 x.to] 24)).cell? ((⟨w6.heap.size + 1, 0, none⟩ : Addr).add j) = some u := by
        exact cell_new _ #[.int .u8 x.tag, .int .u32 x.to] _ _ (by rw [World.size_alloc])
      go_wp2_with (first
        | (at_builtin; refine wpList_append_own_at _ rfl _ _ 31 rfl (w.heap.size + 1) 24 i0 (.agg #[.int .u8 0, .int .u32 0]) 2 8 Try.underlying31 hi hz0 hz1 hz2 rfl (by decide) (.slice va i vcap) i (xs.flatMap edgeCs) rfl ((HRW.out.alloc _).alloc _) ⟨w6.heap.size + 1, 0, none⟩ 1 1 [.int .u8 x.tag, .int .u32 x.to] rfl rfl HCN (by simp [Value.oneCell']) (by unfold maxLen; omega) (by omega) (by simp; omega) ?_; intro v' w3 hown3 hg3 _ hfr)
        | fail)
      have HO3 := Lib.hid hown3
      have HU3 := Lib.hid hg3
      have HFR := Lib.hid hfr
      clear hown3 hg3 hfr HCN
      go_roundg (gk - 1)
      case rel =>
        obtain ⟨hx, hu, hG2, hS2⟩ := HX.out
        obtain ⟨hE, hRm, hL, hgd⟩ := HY.out
        obtain ⟨b06, b16⟩ := HB.out
        obtain ⟨nb, nbG⟩ := HNB.out
        have nG2 := HN2.out
        have hI := HI.out
        have k67 := ((Keeps.refl w6).alloc (.cells #[.int .u8 x.tag, .int .u32 x.to] 24)).alloc (.cells #[.int .u8 x.tag, .int .u32 x.to] 24)
        have z7 : ((w6.alloc (.cells #[.int .u8 x.tag, .int .u32 x.to] 24)).alloc (.cells #[.int .u8 x.tag, .int .u32 x.to] 24)).heap.size = w6.heap.size + 1 + 1 := by rw [World.size_alloc, World.size_alloc]
        have u7 : Upd (fun k => Value.ownBlock (.slice va i vcap) = some k) ((w6.alloc (.cells #[.int .u8 x.tag, .int .u32 x.to] 24)).alloc (.cells #[.int .u8 x.tag, .int .u32 x.to] 24)) w3 :=
          ⟨HU3.out.os, HU3.out.tape, HU3.out.output, HU3.out.size, fun k hk hn => HU3.out.block k hk (fun q => hn q.symm)⟩
        have nw : Value.ownBlock (.slice va i vcap) ≠ some w.heap.size := fun q => by have := (nG2 _ q).2.2; omega
        have hfr := HFR.out
        rw [z7] at hfr
        refine ⟨i + 1, M2, G2, xs ++ [x], by omega, by simp, ⟨(hS2.keeps k67).keep u7 (fun j hj hk => (nG2 j hk).1 hj), fun j hj => ?_, ?_, u7.cellAt nw (k67.cell b06), u7.cellAt nw (k67.cell b16), ?_, fun k hk hg => ?_, by simp [hI.len], hI.ext.trans hE, by rw [hRm]; exact hI.room, by have := hI.few; push_cast; omega, fun g hg => ?_⟩⟩
        · rcases hG2 j hj with q | q
          · exact hI.sub j q
          · right; omega
        · have u1 : Upd F w w6 := hI.upd.trans (hu.mono (fun j hj hg => by
            rcases hI.sub j hg with q | q
            · exact .inl q
            · exact .inr ⟨by omega, hj⟩))
          have u2 := Upd.trans' u1 (Keeps.upd k67 F)
          exact u2.trans (u7.mono (fun j hj hg => .inr ⟨by have := (nG2 j hg).2.2; omega, hj⟩))
        · rw [List.flatMap_append]
          exact HO3.out
        · rcases hfr with q | q
          · rw [q] at hk
            exact (nG2 k hk).1 hg
          · rw [q] at hk
            cases hk
            have := hS2.lt _ hg
            omega
        · by_cases e1 : g = i
          · subst e1
            exact ⟨x, by rw [List.getElem?_append_right (by rw [hI.len]; exact Nat.le_refl _), hI.len, Nat.sub_self]; rfl, hx, by have := hgd; rwa [Int.natCast_add] at this⟩
          · obtain ⟨y, h1, h2, h3⟩ := hI.good g (by omega)
            exact ⟨y, by rw [List.getElem?_append_left (by rw [hI.len]; omega)]; exact h1, h2, h3.ext hE hI.rep.wf (hI.ext.leads (convC_zero HC.out).2.2) (convC_zero HC.out).1 (by omega)⟩
      case measure => omega
    · obtain rfl : i = 5 := by omega
      go_wp2_with fail
      go_ret2
      exact ⟨M, G, xs, _, rfl, HI.out⟩

set_option maxRecDepth 100000 in
theorem each_bad {F : Nat → Prop} {w : World} {sb : Nat} {M : St} (h : StoreRep F w sb M) (f : Int) (e : Edge) (he : e.ok) (hf : 0 ≤ f ∧ f ≤ 255) (hroom : M.room < 1048576) (hc : convC M f 1 e ≠ 0) :
    Calls Try.prog 13 #[.pointer (some ⟨sb, 0, none⟩), .int .u8 f, .agg #[.int .u8 e.tag, .int .u32 e.to]] w fun r w' => r = .returned (.tuple #[.slice none 0 0, .int .u8 (convC M f 1 e)]) ∧ Keeps w w' := by
  have hr := convC_range M f 1 e
  have hTo := fun (W : World) (hW : Keeps w W) => to_bad (h.keeps hW) f 1 e he hc
  obtain ⟨c, hcc⟩ : ∃ c, c = convC M f 1 e := ⟨_, rfl⟩
  rw [← hcc] at hTo hr hc ⊢
  have HTo := Lib.hid hTo
  have hc1 : (c == 0) = false := by simp [hc]
  have hc2 : (c != 0) = true := by simp [hc]
  clear hTo hcc h hroom he
  go_enter Try.func13, Try.ntmps13
  go_wp2_with fail
  have b0 : (w.alloc (.cells #[.int .u8 e.tag, .int .u32 e.to] 24)).cell? ⟨w.heap.size, 0, none⟩ = some (.int .u8 e.tag) := by simp [go_sem]
  have b1 : (w.alloc (.cells #[.int .u8 e.tag, .int .u32 e.to] 24)).cell? ⟨w.heap.size, 1, none⟩ = some (.int .u32 e.to) := by simp [go_sem]
  have ka := (Keeps.refl w).alloc (.cells #[.int .u8 e.tag, .int .u32 e.to] 24)
  obtain ⟨W0, hW0⟩ : ∃ W0, W0 = w.alloc (.cells #[.int .u8 e.tag, .int .u32 e.to] 24) := ⟨_, rfl⟩
  rw [← hW0] at b0 b1 ka ⊢
  clear hW0
  go_loopg [8, 9] 5 (fun gk s8 s9 wr => gk = 5 ∧ s8 = .slice none 0 0 ∧ s9 = .int .u8 1 ∧ W0 = wr)
  case atStart => exact ⟨rfl, rfl, rfl, rfl⟩
  case round =>
    obtain ⟨rfl, rfl, rfl, rfl⟩ := hrel
    go_wp2_with fail
    refine (HTo.out _ ka).mono ?_
    rintro r w6 ⟨rfl, hk6⟩
    go_wp2_with fail
    go_ret2
    exact ⟨rfl, (ka.trans hk6).alloc _⟩

end Go.Proofs.Ytiacdpoldgfpbaa
