/-
  Proved: the statement ConvertBack, for every input.
-/
import Derived.Test.YtiacdpoldgfpbaaGreatPCSamexG
import Derived.Test.YtiacdpoldgfpbaaGreatPIsWxD
import Derived.Test.YtiacdpoldgfpbaaGreatPOpensBxJ
import Derived.Test.YtiacdpoldgfpbaaGreatRows
namespace Go.Proofs.YtiacdpoldgfpbaaGreat
set_option linter.unusedSimpArgs false
set_option linter.unusedVariables false
set_option maxHeartbeats 600000
open Go.ChangeShapes Go.WideShapes Go.ChangeAt Go.RowKit

set_option maxRecDepth 100000 in
theorem convertBack_out (n a : Int) (s : Option Addr) (len cap : Nat) (w : World) (h : n < 0 ∨ 6 < n ∨ len < 1 ∨ 12 < len) :
    Calls Tryz.prog 6 #[.int .i64 n, .int .u64 a, .slice s len cap] w fun e w' => e = .returned (.bool true) ∧ Keeps w w' := by
  have H := Lib.hid h
  clear h
  go_enter Tryz.func6, Tryz.ntmps6
  go_wp2_with (first | (go_at_call 18; refine (l25_alive _).mono ?_; rintro e w1 ⟨rfl, hk⟩) | fail)
  all_goals first | (go_ret; exact ⟨rfl, by (exact kp)⟩) | (exfalso; have := H.out; omega)

theorem tabW {w : World} {B : Nat} {bs : List Bool} (h : BoolsAt w B bs) : TabAt w B 0 bs := fun i b hb => by
  rw [Nat.zero_add]
  exact h.cell hb

structure EBox (W : World) (A : Nat) (e : Edge) : Prop where
  tg : W.cell? ⟨A, 0, none⟩ = some (.int .u8 e.tag)
  end' : W.cell? ⟨A, 1, none⟩ = some (.int .u32 e.to)
  frz : ∀ o, W.frozen? ⟨A, o, none⟩ = false
  lt : A < W.heap.size

theorem EBox.upd {W w' : World} {A : Nat} {e : Edge} {G : Nat → Prop} (h : EBox W A e) (hu : Upd G W w') (hn : ¬ G A) : EBox w' A e :=
  ⟨hu.cellAt hn h.tg, hu.cellAt hn h.end', fun o => (World.frozen?_of_block (a := ⟨A, o, none⟩) (hu.block A h.lt hn)).trans (h.frz o), by have := hu.size; have := h.lt; omega⟩

theorem EBox.keeps {W w' : World} {A : Nat} {e : Edge} (h : EBox W A e) (hk : Keeps W w') : EBox w' A e := h.upd (Keeps.upd hk (fun _ => False)) (fun h => h)

theorem EBox.put {W : World} {A : Nat} {e : Edge} (h : EBox W A e) (p : Edge) : EBox ((W.setCell ⟨A, 0, none⟩ (.int .u8 p.tag)).setCell ⟨A, 1, none⟩ (.int .u32 p.to)) A p := by
  have h0 := h.tg
  have h1 := h.end'
  refine ⟨by simp [go_sem, h0], by simp [go_sem, h1], fun o => by simp [go_sem, h.frz o], by simpa using h.lt⟩

theorem EBox.made (W : World) (e : Edge) : EBox (W.alloc (.cells #[.int .u8 e.tag, .int .u32 e.to] 31)) W.heap.size e :=
  ⟨by simp [go_sem], by simp [go_sem], fun o => by simp [go_sem], by simp⟩

structure BackInv (w wr : World) (sb B xb yb k len : Nat) (fi f : Int) (bs : List Bool) (x y : Edge) (i : Nat) (M : St) (G : Nat → Prop) : Prop where
  rep : StoreRep G wr sb M
  keeps : Keeps w wr
  low : ∀ j, G j → w.heap.size ≤ j
  nB : ¬ G B
  nx : ¬ G xb
  ny : ¬ G yb
  nxy : xb ≠ yb
  nBy : B ≠ yb
  ylow : w.heap.size ≤ yb
  tab : BoolsAt wr B bs
  bx : EBox wr xb x
  bY : EBox wr yb y
  n : (0 : Int) + (k : Nat) = M.n
  room : M.room = 4000
  len' : M.len ≤ 63 + 126 * ((i : Int) - 1)
  form : 1 ≤ f ∧ f ≤ 5
  own : IsT f M k bs 0 y
  it : IsT fi M k bs 0 x
  last : i = len + 1 → f = fi

theorem pow_six {k : Nat} (h : k ≤ 6) : 2 ^ k ≤ 64 := by
  have : 2 ^ k ≤ 2 ^ 6 := Nat.pow_le_pow_right (by decide) h
  have e : (2 : Nat) ^ 6 = 64 := rfl
  omega

theorem formB_of {f : Int} (h : 1 ≤ f ∧ f ≤ 5) : isFormB f = true := by
  rcases form_cases h with rfl | rfl | rfl | rfl | rfl <;> rfl

theorem convC_ok {M : St} {f g : Int} {e : Edge} (hf : 1 ≤ f ∧ f ≤ 5) (hg : 1 ≤ g ∧ g ≤ 5) (hl : M.leads f e 0 = true) : convC M f g e = 0 := by
  unfold convC
  rw [if_neg (by rw [formB_of hf, formB_of hg]; simp), if_neg (by rw [hl]; simp)]

theorem back_step {G : Nat → Prop} {wr w' : World} {sb k : Nat} {f g : Int} {M : St} {y : Edge} {bs : List Bool} {r : Ending} (h : ToOut G wr sb f g M y r w') (hS : StoreRep G wr sb M) (hf : 1 ≤ f ∧ f ≤ 5) (hg : 1 ≤ g ∧ g ≤ 5) (hk : k ≤ 6) (hn : (0 : Int) + (k : Nat) = M.n) (hI : IsT f M k bs 0 y) (hroom : M.len + 126 < M.room) :
    ∃ (M' : St) (z : Edge) (G' : Nat → Prop), r = .returned (.tuple #[.agg #[.int .u8 z.tag, .int .u32 z.to], .int .u8 0]) ∧ z.ok ∧ Upd G wr w' ∧ (∀ j, G' j → G j ∨ wr.heap.size ≤ j) ∧ StoreRep G' w' sb M' ∧ Ext M M' ∧ M'.room = M.room ∧ M'.len ≤ M.len + 126 ∧ IsT g M' k bs 0 z ∧ rightK M' g z 0 := by
  obtain ⟨M', V', z, er, F', rfl, hz, hu, hF, hS', hc⟩ := h
  have hl := hI.leads hS.wf hf hn
  have hp := pow_six hk
  have e0 : (M.n - 0).toNat = k := by omega
  rcases hc with ⟨c1, -⟩ | ⟨-, -, c3⟩
  · exact absurd (convC_ok hf hg hl) c1
  · have her : er = 0 := c3.room0 (by rw [e0]; omega)
    subst her
    have h1 := c3.len
    have h2 := c3.few
    rw [e0] at h2
    simp only [List.length_nil] at h1 h2
    have gd := c3.good rfl
    have ht := gd.isT
    rw [tabE_ext hS.wf c3.ext (Weak.of hl), IsT.means hS.wf hf k bs 0 y hI hn (Int.le_refl _), c3.ext.n, e0] at ht
    exact ⟨M', z, F', rfl, hz, hu, hF, hS', c3.ext, c3.room, by omega, ht, gd.right⟩

theorem same_ok {k : Nat} {f g : Int} {M : St} {x z : Edge} {bs : List Bool} (hw : M.wf) (hf : 1 ≤ f ∧ f ≤ 5) (hg : 1 ≤ g ∧ g ≤ 5) (hn : (0 : Int) + (k : Nat) = M.n) (hx : IsT f M k bs 0 x) (hz : IsT g M k bs 0 z) :
    csC M f g x z = 0 ∧ tabE M f x 0 = tabE M g z 0 := by
  constructor
  · unfold csC
    rw [if_pos (convC_ok hf hg (hx.leads hw hf hn)), if_neg (by rw [hz.leads hw hg hn]; simp)]
  · rw [IsT.means hw hf k bs 0 x hx hn (Int.le_refl _), IsT.means hw hg k bs 0 z hz hn (Int.le_refl _)]

set_option maxRecDepth 100000 in
set_option maxHeartbeats 8000000 in
theorem convertBack_in (k : Nat) (a : Int) (s : Option Addr) (len cap : Nat) (ws : List Int) (w : World) (hk6 : k ≤ 6) (ha : 0 ≤ a) (ha2 : a ≤ 18446744073709551615) (hl1 : 1 ≤ len) (hl12 : len ≤ 12) (hws : IsU8s w s len ws) :
    Calls Tryz.prog 6 #[.int .i64 (k : Int), .int .u64 a, .slice s len cap] w fun e w' => e = .returned (.bool true) ∧ Keeps w w' := by
  have h6 : 2 ^ k ≤ 2 ^ 6 := Nat.pow_le_pow_right (by decide) hk6
  have e6 : (2 : Nat) ^ 6 = 64 := rfl
  rw [e6] at h6
  have H6 := Lib.hid h6
  have HP0 := Lib.hid (Nat.pow_pos (n := k) (show 0 < 2 by decide))
  clear h6 e6
  have hlen := hws.1
  obtain ⟨b, off, rfl⟩ : ∃ b off, s = some ⟨b, off, none⟩ := by
    obtain ⟨_, _, b, off, q, _⟩ := hws.2 0 _ (List.getElem?_eq_getElem (by omega))
    exact ⟨b, off, q⟩
  have hcell : ∀ i, i < len → ∃ x, ws[i]? = some x ∧ 0 ≤ x ∧ x ≤ 255 ∧ w.cell? ⟨b, off + i, none⟩ = some (.int .u8 x) := fun i hi => by
    obtain ⟨q1, q2, b', off', q3, q4⟩ := hws.2 i _ (List.getElem?_eq_getElem (by omega))
    cases q3
    exact ⟨_, List.getElem?_eq_getElem (by omega), q1, q2, q4⟩
  have HCL := Lib.hid hcell
  clear hws hcell
  go_enter Tryz.func6, Tryz.ntmps6
  go_wp2_with (first | (go_at_call 18; refine (l25_alive _).mono ?_; rintro e w1 ⟨rfl, hk⟩) | fail)
  have HK1 := Lib.hid hk
  clear hk
  go_loopg [7] len (fun gk s7 wr => ∃ i : Nat, i + gk = len ∧ s7 = .int .i64 (i : Int) ∧ Hid (∀ j x, j < i → ws[j]? = some x → 1 ≤ x ∧ x ≤ 5) ∧ w1 = wr)
  case atStart => exact ⟨0, by omega, rfl, Lib.hid (fun j x hj => by omega), rfl⟩
  case round =>
    obtain ⟨i, hi, rfl, HALL, rfl⟩ := hrel
    by_cases hlt : i < len
    · obtain ⟨x, hx, x0, x255, hc⟩ := HCL.out i hlt
      have c0 := HK1.out.cell hc
      have HX := Lib.hid hx
      clear hc hx
      by_cases hx1 : x < 1
      · go_wp2_with fail
        go_ret
        exact ⟨rfl, HK1.out⟩
      · by_cases hx5 : 5 < x
        · go_wp2_with fail
          go_ret
          exact ⟨rfl, HK1.out⟩
        · go_wp2_with fail
          go_roundg (gk - 1)
          case rel => exact ⟨i + 1, by omega, by simp, Lib.hid (fun j y hj hy => by
            by_cases e : j = i
            · subst e
              rw [HX.out] at hy
              cases hy
              omega
            · exact HALL.out j y (by omega) hy), rfl⟩
          case measure => omega
    · obtain rfl : i = len := by omega
      obtain ⟨fi, hfi, fi0, fi255, hfc⟩ := HCL.out 0 (by omega)
      rw [Nat.add_zero] at hfc
      have hf15 := HALL.out 0 fi (by omega) hfi
      have cf := HK1.out.cell hfc
      have HFI := Lib.hid hfi
      have HFC := Lib.hid hfc
      clear hi hlt hfi hfc
      go_wp2_with fail
      refine (store_new (k : Int) 4000 _ (by omega) (by omega) (by omega) (by omega)).mono ?_
      rintro e w2 ⟨sb, F, rfl, hk2, hF, hS⟩
      have HS := Lib.hid hS
      have HF := Lib.hid hF
      have HK2 := Lib.hid hk2
      replace cf := hk2.cell cf
      clear hS hF hk2
      go_wp2_with fail
      refine (bits_calls k (by omega) a ha ha2 _).mono ?_
      rintro e w3 ⟨bs, hbl, rfl, hB, hk3⟩
      have HB := Lib.hid hB
      have HK3 := Lib.hid hk3
      have HBL := Lib.hid hbl
      have nFB : ¬ F w2.heap.size := fun hf => by have := HS.out.lt _ hf; omega
      have hmade := kmade_calls fi hf15 k (by omega) 0 (2 ^ k) 0 F w3 (St.new (k : Int) 4000) (HS.out.keeps hk3) hB nFB (by omega) (Nat.le_refl _) (by have := H6.out; omega) (by rw [hbl]; omega) (by simp [St.new]) (by have := H6.out; simp [St.new, St.len]; omega)
      have HMD := Lib.hid hmade
      clear hB hk3 hbl hmade
      go_wp2_with fail
      refine HMD.out.mono ?_
      rintro e w4 ⟨x, M1, rfl, hx, hm1, hg1, hst1⟩
      obtain ⟨⟨F4, r4, sub4⟩, u4⟩ := hst1
      have hI1 : IsT fi M1 k bs 0 x := by
        have := hm1.1
        rw [List.drop_zero, List.take_of_length_le (by rw [HBL.out]; exact Nat.le_refl _)] at this
        exact this
      have z2 := HK1.out.size
      have z3 := HK2.out.size
      have z4 := HB.out.lt
      have z5 := u4.size
      have nF4B : ¬ F4 w2.heap.size := fun hf => by
        rcases sub4 _ hf with q | q
        · exact nFB q
        · omega
      have low4 : ∀ j, F4 j → w.heap.size ≤ j := fun j hj => by
        rcases sub4 j hj with q | q
        · have := HF.out j q; omega
        · omega
      have n41 : ¬ F4 w4.heap.size := fun hf => by have := r4.lt _ hf; omega
      have n42 : ¬ F4 (w4.heap.size + 1) := fun hf => by have := r4.lt _ hf; omega
      have hK4 : Keeps w w4 := ((HK1.out.trans HK2.out).trans HK3.out).new u4 (fun j hj => by have := HF.out j hj; omega)
      have hBI : BackInv w ((w4.alloc (.cells #[.int .u8 x.tag, .int .u32 x.to] 31)).alloc (.cells #[.int .u8 x.tag, .int .u32 x.to] 31)) sb w2.heap.size w4.heap.size (w4.heap.size + 1) k i fi fi bs x x 1 M1 F4 := by
        have ka := (Keeps.refl w4).alloc (.cells #[.int .u8 x.tag, .int .u32 x.to] 31)
        have kb := ka.alloc (.cells #[.int .u8 x.tag, .int .u32 x.to] 31)
        have b1 := EBox.made w4 x
        have b2 := EBox.made (w4.alloc (.cells #[.int .u8 x.tag, .int .u32 x.to] 31)) x
        rw [World.size_alloc] at b2
        have gl := hg1.len
        have gr := hg1.room
        exact ⟨r4.keeps kb, hK4.trans kb, low4, nF4B, n41, n42, by omega, by omega, by have := hK4.size; omega, (HB.out.keep u4 nFB).keep (Keeps.upd kb (fun _ => False)) (fun h => h), b1.keeps ((Keeps.refl _).alloc _), b2,
          by rw [hg1.ext.n]; simp [St.new], gr, by have := H6.out; simp [St.new, St.len] at gl ⊢; omega, hf15, hI1, hI1, fun _ => rfl⟩
      have HBI := Lib.hid hBI
      have HX := Lib.hid hx
      have HK6 := Lib.hid hk6
      clear hBI hx hm1 hg1 r4 sub4 u4 hI1 low4 n41 n42 hK4 nF4B nFB z2 z3 z4 z5 HS HF HK2 HB HK3 HMD cf HFC
      go_wp2_with fail
      obtain ⟨W5, hW5⟩ : ∃ W5, W5 = (w4.alloc (.cells #[.int .u8 x.tag, .int .u32 x.to] 31)).alloc (.cells #[.int .u8 x.tag, .int .u32 x.to] 31) := ⟨_, rfl⟩
      rw [← hW5] at HBI ⊢
      clear hW5
      obtain ⟨yb, hyb⟩ : ∃ yb, yb = w4.heap.size + 1 := ⟨_, rfl⟩
      obtain ⟨xb, hxb⟩ : ∃ xb, xb = w4.heap.size := ⟨_, rfl⟩
      obtain ⟨B, hB⟩ : ∃ B, B = w2.heap.size := ⟨_, rfl⟩
      rw [← hyb, ← hxb, ← hB] at HBI ⊢
      clear hyb hxb hB
      go_loopg [15, 16] i (fun gk s15 s16 wr => ∃ (j : Nat) (M : St) (G : Nat → Prop) (f : Int) (y : Edge), j + gk = i + 1 ∧ 1 ≤ j ∧ s15 = .int .u8 f ∧ s16 = .int .i64 (j : Int) ∧ Hid (y.ok ∧ BackInv w wr sb B xb yb k i fi f bs x y j M G))
      case atStart => exact ⟨1, _, _, _, _, by omega, by omega, rfl, rfl, Lib.hid ⟨HX.out, HBI.out⟩⟩
      case round =>
        obtain ⟨j, M, G, f, y, hj, hj1, rfl, rfl, HI⟩ := hrel
        by_cases hji : j ≤ i
        · obtain ⟨o, g, ho, hoi, hg, hcl⟩ : ∃ (o : Nat) (g : Int), (j : Int) % (i : Int) = (o : Int) ∧ ((j < i ∧ o = j) ∨ (j = i ∧ o = 0)) ∧ ws[o]? = some g ∧ w.cell? ⟨b, off + o, none⟩ = some (.int .u8 g) := by
            by_cases e : j = i
            · obtain ⟨g, h1, h2, h3, h4⟩ := HCL.out 0 (by omega)
              exact ⟨0, g, by rw [e]; simp, .inr ⟨e, rfl⟩, h1, h4⟩
            · obtain ⟨g, h1, h2, h3, h4⟩ := HCL.out j (by omega)
              exact ⟨j, g, Int.emod_eq_of_lt (by omega) (by omega), .inl ⟨by omega, rfl⟩, h1, h4⟩
          have o_lt : o < i := by omega
          have hg15 := HALL.out o g o_lt hg
          have cg := HI.out.2.keeps.cell hcl
          have HOI := Lib.hid hoi
          have HG := Lib.hid hg
          have HG15 := Lib.hid hg15
          have g0 : 0 ≤ g := by omega
          have g255 : g ≤ 255 := by omega
          clear hcl hoi hg hg15
          have y0 := HI.out.2.bY.tg
          have y1 := HI.out.2.bY.end'
          have f0 : 0 ≤ f := by have := HI.out.2.form; omega
          have f255 : f ≤ 255 := by have := HI.out.2.form; omega
          have hTo := fun (W : World) (hW : W = wr) => (by
            subst hW
            exact (to_calls HI.out.2.rep f g y HI.out.1 (by have := HI.out.2.room; omega)).mono fun r w' hh => back_step hh HI.out.2.rep HI.out.2.form HG15.out HK6.out HI.out.2.n HI.out.2.own (by have := HI.out.2.room; have := HI.out.2.len'; omega))
          have HTo := Lib.hid hTo
          clear hTo
          go_wp2_with fail
          refine (HTo.out _ rfl).mono ?_
          rintro e w6 ⟨M2, z, G2, rfl, hz, hu, hG2, hS2, hE, hR, hL, hIz, hrz⟩
          have nG2B : ¬ G2 B := fun hh => by
            rcases hG2 _ hh with q | q
            · exact HI.out.2.nB q
            · have := HI.out.2.tab.lt; omega
          have nG2x : ¬ G2 xb := fun hh => by
            rcases hG2 _ hh with q | q
            · exact HI.out.2.nx q
            · have := HI.out.2.bx.lt; omega
          have nG2y : ¬ G2 yb := fun hh => by
            rcases hG2 _ hh with q | q
            · exact HI.out.2.ny q
            · have := HI.out.2.bY.lt; omega
          have low2 : ∀ t, G2 t → w.heap.size ≤ t := fun t ht => by
            rcases hG2 _ ht with q | q
            · exact HI.out.2.low t q
            · have := HI.out.2.keeps.size; omega
          have tb6 := HI.out.2.tab.keep hu HI.out.2.nB
          have bx6 := HI.out.2.bx.upd hu HI.out.2.nx
          have by6 := HI.out.2.bY.upd hu HI.out.2.ny
          have kp6 := HI.out.2.keeps.new hu HI.out.2.low
          have hn2 : (0 : Int) + (k : Nat) = M2.n := by rw [hE.n]; exact HI.out.2.n
          have hIx : IsT fi M2 k bs 0 x := IsT.ext hE hf15 _ _ _ _ HI.out.2.it
          have hRm : M2.room = 4000 := by rw [hR]; exact HI.out.2.room
          have hLn : M2.len ≤ 63 + 126 * (((j + 1 : Nat) : Int) - 1) := by have := HI.out.2.len'; push_cast; omega
          have hSm := fun (W : World) (hW : Keeps w6 W) => convsame_calls (hS2.keeps hW) fi g x z HX.out hz
          obtain ⟨q1, q2⟩ := same_ok hS2.wf hf15 HG15.out hn2 hIx hIz
          rw [q1, q2] at hSm
          simp only [decide_true, Bool.and_self] at hSm
          have hIs := fun (W : World) (hW : Keeps w6 W) => is19_calls (hS2.keeps hW) g HG15.out hz HK6.out hn2 hIz hrz (tabW (tb6.keep (Keeps.upd hW (fun _ => False)) (fun h => h)))
          have x0 := bx6.tg
          have x1 := bx6.end'
          have lx := bx6.lt
          have ly := by6.lt
          have c0 := by6.tg
          have c1 := by6.end'
          have f0' := by6.frz 0
          have f1' := by6.frz 1
          have HSm := Lib.hid hSm
          have HIs := Lib.hid hIs
          have HS2 := Lib.hid hS2
          have HZ := Lib.hid (⟨hz, hIz, hrz⟩ : z.ok ∧ IsT g M2 k bs 0 z ∧ rightK M2 g z 0)
          have H2 := Lib.hid (⟨nG2B, nG2x, nG2y, low2⟩ : ¬ G2 B ∧ ¬ G2 xb ∧ ¬ G2 yb ∧ ∀ t, G2 t → w.heap.size ≤ t)
          have H3 := Lib.hid (⟨tb6, bx6, by6, kp6⟩ : BoolsAt w6 B bs ∧ EBox w6 xb x ∧ EBox w6 yb y ∧ Keeps w w6)
          have H4 := Lib.hid (⟨hn2, hIx, hRm, hLn⟩ : (0 : Int) + (k : Nat) = M2.n ∧ IsT fi M2 k bs 0 x ∧ M2.room = 4000 ∧ M2.len ≤ 63 + 126 * (((j + 1 : Nat) : Int) - 1))
          clear hSm hIs hS2 hz hIz hrz nG2B nG2x nG2y low2 tb6 bx6 by6 kp6 hn2 hIx hRm hLn hu hG2 hE hR hL q1 q2 y0 y1 cg HTo
          go_wp2_with fail
          refine (HSm.out _ ((Keeps.refl _).alloc _)).mono ?_
          rintro e w7 ⟨rfl, hk7⟩
          have z0 := hk7.cell (a := ⟨w6.heap.size, 0, none⟩) (v := .int .u8 z.tag) (by simp [go_sem])
          have z1 := hk7.cell (a := ⟨w6.heap.size, 1, none⟩) (v := .int .u32 z.to) (by simp [go_sem])
          have hk67 : Keeps w6 w7 := ((Keeps.refl _).alloc _).trans hk7
          clear hk7
          go_wp2_with fail
          refine (HIs.out _ hk67).mono ?_
          rintro e w8 ⟨rfl, hk8⟩
          replace z0 := hk8.cell z0
          replace z1 := hk8.cell z1
          have hk68 := hk67.trans hk8
          replace c0 := hk68.cell c0
          replace c1 := hk68.cell c1
          replace f0' := hk68.frz ly f0'
          replace f1' := hk68.frz ly f1'
          have l8 := lt_of_cell c0
          clear hk67 hk8 x0 x1
          go_wp2_with fail
          go_roundg (gk - 1)
          case rel =>
            obtain ⟨nB, nx, ny, low⟩ := H2.out
            obtain ⟨tb, bx, bY, kp⟩ := H3.out
            obtain ⟨hn, hIx, hRm, hLn⟩ := H4.out
            obtain ⟨hz, hIz, hrz⟩ := HZ.out
            have hu3 := ((Upd.refl (fun t => t = yb) w8).setCell (p := ⟨yb, 0, none⟩) (Or.inl rfl) (.int .u8 z.tag)).setCell (p := ⟨yb, 1, none⟩) (Or.inl rfl) (.int .u32 z.to)
            refine ⟨j + 1, M2, G2, g, z, by omega, by omega, rfl, by simp, Lib.hid ⟨hz, ⟨(HS2.out.keeps hk68).keep hu3 (fun t ht e => ny (e ▸ ht)), ((kp.trans hk68).setCell HI.out.2.ylow _).setCell HI.out.2.ylow _, low, nB, nx, ny, HI.out.2.nxy, HI.out.2.nBy, HI.out.2.ylow,
              (tb.keep (Keeps.upd hk68 (fun _ => False)) (fun h => h)).keep hu3 (fun e => HI.out.2.nBy e), (bx.keeps hk68).upd hu3 (fun e => HI.out.2.nxy e), (bY.keeps hk68).put z, hn, hRm, hLn, HG15.out, hIz, hIx, fun e => ?_⟩⟩⟩
            rcases HOI.out with ⟨a1, a2⟩ | ⟨a1, a2⟩
            · omega
            · subst a2
              have := HG.out
              rw [HFI.out] at this
              cases this
              rfl
          case measure => omega
        · obtain rfl : j = i + 1 := by omega
          have hf := HI.out.2.last rfl
          subst hf
          have hyx : y = x := IsT.det HI.out.2.rep.wf _ _ _ _ _ HI.out.2.own HI.out.2.it
          subst hyx
          have y0 := HI.out.2.bY.tg
          have y1 := HI.out.2.bY.end'
          have x0 := HI.out.2.bx.tg
          have x1 := HI.out.2.bx.end'
          go_wp2_with fail
          go_ret
          exact ⟨rfl, HI.out.2.keeps⟩

theorem convertBack_walk (n a : Int) (s : Option Addr) (len cap : Nat) (ws : List Int) (w : World) (_ : (Lit.int .i64 n).wf = true) (ha : (Lit.int .u64 a).wf = true) (hws : IsU8s w s len ws) :
    Calls Tryz.prog 6 #[.int .i64 n, .int .u64 a, .slice s len cap] w fun e w' => e = .returned (.bool true) ∧ Keeps w w' := by
  by_cases h : n < 0 ∨ 6 < n ∨ len < 1 ∨ 12 < len
  · exact convertBack_out n a s len cap w h
  · obtain ⟨k, rfl⟩ : ∃ k : Nat, n = (k : Int) := ⟨n.toNat, by omega⟩
    obtain ⟨a0, a1⟩ := wf_u64 ha
    exact convertBack_in k a s len cap ws w (by omega) a0 a1 (by omega) (by omega) hws

set_option maxRecDepth 100000 in
theorem convertBack_lifted (os : Os) (started : os.Started) (H : Type) (enc : TypeId × Value → H) :
    ReturnsInHanded {} Tryz.checked os 6 .any (Rows.convertBackSpec.pre6 enc Tryz.prog Tryz.f6 Rows.convertBackRow.domain false) (Rows.convertBackSpec.post enc Tryz.prog Tryz.f6 false true false false) := by
  refine returnsInHanded_of_change (C := Tryz.checked) own started (by kernel_rfl) Tryz.func6
    (ChangeSpec.witness6 (enc := enc) (C := Tryz.checked) false ⟨#[], #[.int .i64 0, .int .u64 0, .slice none 0 0], []⟩ 12 (by kernel_rfl) (by kernel_rfl) (by kernel_rfl) (by kernel_rfl)) ?_
  intro W base args ds gs before hval0 hW hcnd _
  have hval : ∀ (j : Nat) t v, Tryz.f6.params[j]? = some t → args[j]? = some v → Value.okWide Tryz.prog W .any base t v := hval0
  have hW' := hW
  obtain ⟨p, q, hA0, hV, rfl, hfz, hnd⟩ := hW
  have hA : DataW.TrodAll enc Tryz.prog W 0 (fun _ => true) true Tryz.f6.params.toList args.toList ds p := hA0
  rw [Tryz.params6] at hA hval
  have hAk := hA
  obtain ⟨v0, vs0, d0, ds0, p0, q0, hargs, rfl, rfl, h0, r0⟩ := trodAll_cons hA
  obtain ⟨v1, vs1, d1, ds1, p1, q1, rfl, rfl, rfl, h1, r1⟩ := trodAll_cons r0
  obtain ⟨v2, vs2, d2, ds2, p2, q2, rfl, rfl, rfl, h2, r2⟩ := trodAll_cons r1
  obtain ⟨rfl, rfl, rfl⟩ := trodAll_nil r2
  obtain rfl : args = #[v0, v1, v2] := by cases args; simp_all
  obtain ⟨rfl, rfl⟩ := trodVars_none hV
  obtain ⟨a0, rfl, rfl, rfl, w0⟩ := open_int Tryz.underlying3 (hval 0 3 v0 rfl rfl) h0
  obtain ⟨a1, rfl, rfl, rfl, w1⟩ := open_int Tryz.underlying43 (hval 1 43 v1 rfl rfl) h1
  obtain ⟨a2, len2, cap2, rfl⟩ := okWide_slice Tryz.underlying62 (hval 2 62 v2 rfl rfl)
  obtain ⟨rs2, w2⟩ := open_u8s h2
  clear hA0 hval0
  refine (convertBack_walk a0 a1 a2 len2 cap2 rs2 W w0 w1 w2).mono fun e W' ⟨he, bel⟩ => ?_
  subst he
  exact ⟨_, rfl, _, _, _, [], _, [], hW', trodAll_mk1 (shut_bool Tryz.underlying4 _), trodAll_below laidOut bel _ _ _ _ (by kernel_rfl) hAk, rfl, Below.frame bel _, fun h => by cases h⟩

theorem convertBack_over : Rows.convertBackRow.holds Tryz.pinned (OpenSpec.ofChange Rows.convertBackSpec) :=
  OpenClaim.holds_of_wide 6 Tryz.f6 rfl rfl rfl rfl rfl rfl rfl ⟨rfl, rfl, rfl, rfl, rfl⟩ rfl rfl rfl rfl rfl (by kernel_rfl) Tryz.func6 (by kernel_rfl)
    (of_decide_eq_true (by kernel_rfl)) (by unfold Func.isWrapper; first | (rw [if_pos (by decide +kernel)]; kernel_rfl) | (rw [if_neg (by decide +kernel)]; exact ⟨rfl, rfl⟩))
    (fun os started H enc _ => convertBack_lifted os started H enc)

theorem convertBack_proved : Rows.ConvertBackSaid := convertBack_over

end Go.Proofs.YtiacdpoldgfpbaaGreat
