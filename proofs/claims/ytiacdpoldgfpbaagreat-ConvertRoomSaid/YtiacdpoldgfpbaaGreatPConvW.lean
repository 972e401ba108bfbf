/-
  The walk of convert.from: an edge to nothing, at the end, or kept.
-/
import Derived.Test.YtiacdpoldgfpbaaGreatPConvM
import Derived.Test.YtiacdpoldgfpbaaGreatPHMadeK
namespace Go.Proofs.YtiacdpoldgfpbaaGreat
set_option linter.unusedSimpArgs false
set_option linter.unusedVariables false
set_option maxHeartbeats 600000
open Go.RowKit

theorem kvAct_view {f : Int} (hf : 1 ≤ f ∧ f ≤ 5) {M : St} {e : Edge} {l : Int} : kvAct M f e l = viewAct M f e l := by
  have hff : f = 1 ∨ f = 2 ∨ f = 3 ∨ f = 4 ∨ f = 5 := by omega
  rcases hff with rfl | rfl | rfl | rfl | rfl <;> rfl

theorem upd_boxes {F : Nat → Prop} {w0 wc W : World} {fn : FuncId} {args : Array Value} {Q : Ending → World → Prop} {R : World → Prop} (hlt : ∀ k, F k → k < w0.heap.size) (hs : w0.heap.size ≤ wc.heap.size)
    (h : Calls Tryz.prog fn args W fun r w' => Q r w' ∧ Upd F W w' ∧ R w') :
    Calls Tryz.prog fn args W fun r w' => (Q r w' ∧ Upd F W w' ∧ R w') ∧ (∀ j o, wc.heap.size ≤ j → j < W.heap.size → w'.cell? ⟨j, o, none⟩ = W.cell? ⟨j, o, none⟩) ∧ (∀ j o, wc.heap.size ≤ j → j < W.heap.size → w'.frozen? ⟨j, o, none⟩ = W.frozen? ⟨j, o, none⟩) ∧ (∀ j, j < W.heap.size → j < w'.heap.size) ∧ (∀ j, j < W.heap.size → ¬ j = w'.heap.size) ∧ (∀ j, j < W.heap.size → ¬ w'.heap.size = j) := by
  refine h.mono fun r w' hh => ⟨hh, fun j o h1 h2 => ?_, fun j o h1 h2 => ?_, fun j hj => by have := hh.2.1.size; omega, fun j hj => by have := hh.2.1.size; omega, fun j hj => by have := hh.2.1.size; omega⟩
  · have := hh.2.1.block j h2 (fun hf => by have := hlt _ hf; omega)
    simp only [World.cell?, this]
  · exact World.frozen?_of_block (a := ⟨j, o, none⟩) (hh.2.1.block j h2 (fun hf => by have := hlt _ hf; omega))

structure Boxed2 (F : Nat → Prop) (w0 wy : World) (sb : Nat) (M1 : St) (B C : Nat) (lo hi : Edge) (F1 : Nat → Prop) : Prop where
  a0 : wy.cell? ⟨B, 0, none⟩ = some (.int .u8 lo.tag)
  a1 : wy.cell? ⟨B, 1, none⟩ = some (.int .u32 lo.to)
  c0 : wy.cell? ⟨C, 0, none⟩ = some (.int .u8 hi.tag)
  c1 : wy.cell? ⟨C, 1, none⟩ = some (.int .u32 hi.to)
  upd : Upd F w0 wy
  rep : StoreRep F1 wy sb M1
  sub : ∀ j, F1 j → F j ∨ w0.heap.size ≤ j
  nB : ¬ F1 B
  nC : ¬ F1 C
  gB : w0.heap.size ≤ B
  gC : w0.heap.size ≤ C

theorem Upd.later {F G : Nat → Prop} {a b c : World} (h : Upd F a b) (k : Upd G b c) (hG : ∀ i, i < a.heap.size → G i → F i) : Upd F a c :=
  ⟨k.os.trans h.os, k.tape.trans h.tape, k.output.trans h.output, Nat.le_trans h.size k.size, fun i hi hf => (k.block i (Nat.lt_of_lt_of_le hi h.size) (fun hg => hf (hG i hi hg))).trans (h.block i hi hf)⟩

theorem boxed2 {F : Nat → Prop} {w0 W w2 wy : World} {sb : Nat} {M1 : St} {B C : Nat} {lo hi : Edge} (hlt : ∀ k, F k → k < w0.heap.size) (hW : Keeps w0 W) (hu : Upd F W w2) (hS : StoreRep (Grow F W w2) w2 sb M1) (hG : Upd (fun k => k = B ∨ k = C) w2 wy)
    (hB : w0.heap.size ≤ B ∧ (B < W.heap.size ∨ w2.heap.size ≤ B)) (hC : w0.heap.size ≤ C ∧ (C < W.heap.size ∨ w2.heap.size ≤ C)) (a0 : wy.cell? ⟨B, 0, none⟩ = some (.int .u8 lo.tag)) (a1 : wy.cell? ⟨B, 1, none⟩ = some (.int .u32 lo.to))
    (c0 : wy.cell? ⟨C, 0, none⟩ = some (.int .u8 hi.tag)) (c1 : wy.cell? ⟨C, 1, none⟩ = some (.int .u32 hi.to)) : Boxed2 F w0 wy sb M1 B C lo hi (Grow F W w2) := by
  have hs1 := hW.size
  have no : ∀ X, (w0.heap.size ≤ X ∧ (X < W.heap.size ∨ w2.heap.size ≤ X)) → ¬ Grow F W w2 X := fun X hX hg => by
    rcases hg with hg | hg
    · have := hlt _ hg; omega
    · omega
  refine ⟨a0, a1, c0, c1, ((Keeps.upd hW F).trans' hu).later hG (fun i hi hg => ?_), hS.keep hG (fun k hk hg => ?_), fun j hj => ?_, no B hB, no C hC, hB.1, hC.1⟩
  · rcases hg with rfl | rfl <;> omega
  · rcases hg with rfl | rfl
    · exact no _ hB hk
    · exact no _ hC hk
  · rcases hj with hj | hj
    · exact .inl hj
    · exact .inr (by omega)

def FromOut (F : Nat → Prop) (w : World) (sb wb b : Nat) (f g : Int) (M : St) (V : List (Edge × Int)) (e : Edge) (l : Int) (r : Ending) (w' : World) : Prop :=
  ∃ (M' : St) (V' : List (Edge × Int)) (x : Edge) (er : Int) (F' : Nat → Prop), r = .returned (.tuple #[.agg #[.int .u8 x.tag, .int .u32 x.to], .int .u8 er]) ∧ Conv f g M V e l M' V' x er ∧ x.ok ∧ (er = 0 ∨ er = 6) ∧
    Upd (fun j => F j ∨ j = b) w w' ∧ (∀ j, F' j → F j ∨ w.heap.size ≤ j) ∧ StoreRep F' w' sb M' ∧ (er = 0 → ∃ D', ConvCtx F' w' sb wb b f g M' V' D')

section
variable {F : Nat → Prop} {w : World} {sb wb b : Nat} {f g : Int} {M : St} {V : List (Edge × Int)} {D : DataW Unit}

theorem wfrom_same (h : ConvCtx F w sb wb b f g M V D) (hV : V.Nodup) {e x : Edge} {l : Int} (hg : GoodC f g M e l x) {w' : World} (hk : Keeps w w') :
    FromOut F w sb wb b f g M V e l (.returned (.tuple #[.agg #[.int .u8 x.tag, .int .u32 x.to], .int .u8 0])) w' :=
  ⟨M, V, x, 0, F, rfl, conv_same h.rep.wf hV hg, hg.ok, .inl rfl, Keeps.upd hk _, fun j hj => .inl hj, h.rep.keeps hk, fun _ => ⟨D, h.keeps hk⟩⟩

set_option maxRecDepth 100000 in
theorem wfrom_zero (h : ConvCtx F w sb wb b f g M V D) (hV : V.Nodup) (hf : 1 ≤ f ∧ f ≤ 5) (hg : 1 ≤ g ∧ g ≤ 5) (e : Edge) (l : Int) (hl : M.leads f e l = true) (h0 : 0 ≤ l) (hz : e.to = 0) :
    Calls Tryz.prog 64 #[.pointer (some ⟨wb, 0, none⟩), .agg #[.int .u8 e.tag, .int .u32 e.to, .int .i64 l]] w (FromOut F w sb wb b f g M V e l) := by
  have HQ := Lib.hid (fun (w' : World) (hk : Keeps w w') => wfrom_same h hV (good_zero h.rep.wf hf hg hl h0 hz) hk)
  clear h hV hf hg hl h0
  obtain ⟨t, a⟩ := e
  simp only at hz
  subst hz
  go_enter Tryz.func64, Tryz.ntmps64
  go_wp2_with fail
  refine bodyPost_ret (v := .tuple #[.agg #[.int .u8 (⟨0, 0⟩ : Edge).tag, .int .u32 (⟨0, 0⟩ : Edge).to], .int .u8 0]) (by simp [results, Tryz.results64, go_sem]) rfl (HQ.out _ (by (exact kp)))

theorem oneE_endE (g n : Int) : oneE g n = endE g true n := by
  unfold oneE endE
  rw [if_pos rfl]

set_option maxRecDepth 100000 in
theorem wfrom_end (h : ConvCtx F w sb wb b f g M V D) (hV : V.Nodup) (hf : 1 ≤ f ∧ f ≤ 5) (hg : 1 ≤ g ∧ g ≤ 5) (e : Edge) (he : e.ok) (hl : M.leads f e M.n = true) (hz : e.to ≠ 0) :
    Calls Tryz.prog 64 #[.pointer (some ⟨wb, 0, none⟩), .agg #[.int .u8 e.tag, .int .u32 e.to, .int .i64 M.n]] w (FromOut F w sb wb b f g M V e M.n) := by
  have hn0 := h.rep.wf.n0
  have hn16 := h.rep.wf.n16
  have hQ := fun (w' : World) (hk : Keeps w w') => wfrom_same h hV (good_end h.rep.wf hf hg he hl rfl hz) hk
  rw [← oneE_endE] at hQ
  have HQ := Lib.hid hQ
  have HV := Lib.hid (fun (W : World) (hW : Keeps w W) => store_vars (h.rep.keeps hW))
  have hgf : isFormB g = true := by unfold isFormB; simp [hg.1, hg.2]
  have HO := Lib.hid (fun (W : World) => one_calls g M.n W hgf hn0 hn16)
  have c0 := h.c0
  have c2 := h.c2
  have hwb := h.lt.2
  have hto : (e.to == 0) = false := by simp [hz]
  obtain ⟨n, hn⟩ : ∃ n, n = M.n := ⟨_, rfl⟩
  rw [← hn] at hn0 hn16 HV HO HQ ⊢
  obtain ⟨o, ho⟩ : ∃ o, o = oneE g n := ⟨_, rfl⟩
  rw [← ho] at HO HQ
  clear h hV hf hg hl hQ hgf he ho hn
  go_enter Tryz.func64, Tryz.ntmps64
  go_wp2_with fail
  obtain ⟨W1, hW1⟩ : ∃ W1, W1 = (w.alloc (.cells #[.int .u8 e.tag, .int .u32 e.to, .int .i64 n] 97)).alloc (.cells #[.int .u8 0, .int .u32 0] 31) := ⟨_, rfl⟩
  have p1 : W1.cell? ⟨w.heap.size, 2, none⟩ = some (.int .i64 n) := by rw [hW1]; simp [go_sem]
  have r0 : W1.cell? ⟨w.heap.size + 1, 0, none⟩ = some (.int .u8 0) := by rw [hW1]; simp [go_sem]
  have r1 : W1.cell? ⟨w.heap.size + 1, 1, none⟩ = some (.int .u32 0) := by rw [hW1]; simp [go_sem]
  have rf : ∀ o : Nat, W1.frozen? ⟨w.heap.size + 1, o, none⟩ = false := fun o => by rw [hW1]; simp [go_sem]
  have hk1 : Keeps w W1 := by rw [hW1]; exact ((Keeps.refl _).alloc _).alloc _
  have hs1 : W1.heap.size = w.heap.size + 2 := by rw [hW1]; simp
  have d0 := hk1.cell c0
  have d2 := hk1.cell c2
  rw [← hW1]
  clear hW1 c0 c2
  have HVs := Lib.hid (fun (W : World) (hW : Keeps W1 W) => HV.out W (hk1.trans hW))
  have p1k := KWorld.cell p1
  have d0k := KWorld.cell d0
  refine wp_region_keeps (W1) (by kernel_rfl) (by kernel_rfl) (by (exact kp)) ?_; (repeat (go_big_quiet_step ((first | (go_at_call 41; with_reducible refine Calls.sameK (HVs.out _ (KWorld.keep _))))))); refine wpQuiet_nil ?_; rintro wq ⟨⟨_, hkq⟩, rfl⟩; try dsimp only
  have q0 := hkq.cell d0
  have q2 := hkq.cell d2
  have qp := hkq.cell p1
  have qr0 := hkq.cell r0
  have qr1 := hkq.cell r1
  have qrf := fun o : Nat => hkq.frz (a := ⟨w.heap.size + 1, o, none⟩) (by show w.heap.size + 1 < _; omega) (rf o)
  clear p1k d0k p1 d0 d2 r0 r1 rf
  go_wp2_with fail
  have n1 : w.heap.size + 1 ≠ wb := by omega
  have n2 : w.heap.size + 1 ≠ w.heap.size := by omega
  have hk4 := hk1.trans hkq
  have hsq := hkq.size
  go_region_held3 (fun w' => w'.cell? ⟨wb, 2, none⟩ = some (.int .u8 g) ∧ w'.cell? ⟨w.heap.size, 2, none⟩ = some (.int .i64 n)) (go_keep) ((go_at_call 42; refine (HO.out _).mono ?_; rintro e2 w2 ⟨rfl, hk2⟩; have y2 := hk2.cell (show (wq.drew).cell? ⟨wb, 2, none⟩ = some (.int .u8 g) by simp [q2]); have yp := hk2.cell (show (wq.drew).cell? ⟨w.heap.size, 2, none⟩ = some (.int .i64 n) by simp [qp]); have yr0 := hk2.cell (show (wq.drew).cell? ⟨w.heap.size + 1, 0, none⟩ = some (.int .u8 0) by simp [qr0]); have yr1 := hk2.cell (show (wq.drew).cell? ⟨w.heap.size + 1, 1, none⟩ = some (.int .u32 0) by simp [qr1]); have yrf := fun o : Nat => hk2.frz (a := ⟨w.heap.size + 1, o, none⟩) (by show w.heap.size + 1 < _; simp only [World.size_drew]; omega) (by simp [qrf o])))
  go_wp2_with fail
  refine bodyPost_ret (v := .tuple #[.agg #[.int .u8 o.tag, .int .u32 o.to], .int .u8 0]) (by simp [results, Tryz.results64, go_sem, yr0, yr1]) rfl (HQ.out _ ?_)
  have hk9 : Keeps w w2 := hk4.trans ((Keeps.refl _).drew.trans hk2)
  (exact kp)

theorem updR {R : Nat} {x y : World} (h : Upd (fun j => j = R) x y) (o : Nat) (v : Value) : Upd (fun j => j = R) x (y.setCell ⟨R, o, none⟩ v) := h.setCell (Or.inl rfl) v

theorem findSt_ext {M : St} (h : M.wf) (r : Rec) : Ext M (M.findSt r) := by
  cases hi : M.idOf r with
  | some id =>
    rw [(find_old h (idOf_look hi)).2.2]
    exact Ext.refl M
  | none =>
    cases hb : M.bad r with
    | true =>
      have : M.findSt r = M := by unfold St.findSt; rw [hi]; simp [hb]
      rw [this]
      exact Ext.refl M
    | false =>
      by_cases he : M.findErr r = 0
      · exact (find_zero h hb he).2.1
      · rw [(find_full hb he).2.1]
        exact Ext.refl M

theorem act_ext {M : St} (h : M.wf) (a : (Edge × Int) ⊕ Rec) : Ext M (actSt M a) := by
  cases a with
  | inl x => exact Ext.refl M
  | inr r => exact findSt_ext h r

theorem ConvCtx.put {F : Nat → Prop} {W W' : World} {sb wb b : Nat} {f g : Int} {M : St} {V : List (Edge × Int)} {D : DataW Unit} (h : ConvCtx F W sb wb b f g M V D) {e x : Edge} {l : Int} (hu : Upd (fun k => k = b) W W') (hown : W'.ownsMap Tryz.prog 97 edgeElem b (V.length + 1) (D.put (placeL e l) (edgeD x)))
    (he : e.ok) (h0 : 0 ≤ l) (h1 : l ≤ 16) (hl : M.leads f e l = true) (hp : (e, l) ∉ V) (hx : GoodC f g M e l x) : ConvCtx F W' sb wb b f g M (V ++ [(e, l)]) (D.put (placeL e l) (edgeD x)) := by
  refine ⟨h.rep.keep hu (fun k hk e => by subst e; exact h.nF hk), hu.cellAt (h.neCell h.c0) h.c0, hu.cellAt (h.neCell h.c0) h.c1, hu.cellAt (h.neCell h.c0) h.c2, hu.cellAt (h.neCell h.c0) h.c3, h.nF, h.nW, ?_, h.memo.put he h0 h1 hl hp hx⟩
  rw [List.length_append]
  exact hown

theorem full_out {e : Edge} {l : Int} {M2 : St} {V2 : List (Edge × Int)} {F2 : Nat → Prop} {w6 w' : World} {R : Nat} (hc : Conv f g M V e l M2 V2 ⟨0, 0⟩ 6) (hu : Upd (fun j => F j ∨ j = b) w w6) (hF2 : ∀ j, F2 j → F j ∨ w.heap.size ≤ j) (hS : StoreRep F2 w6 sb M2)
    (hw : Upd (fun j => j = R) w6 w') (hR : ¬ F2 R) (hRw : w.heap.size ≤ R) : FromOut F w sb wb b f g M V e l (.returned (.tuple #[.agg #[.int .u8 (⟨0, 0⟩ : Edge).tag, .int .u32 (⟨0, 0⟩ : Edge).to], .int .u8 6])) w' :=
  ⟨M2, V2, _, 6, F2, rfl, hc, edge0_ok, .inr rfl, hu.later hw (fun i hi hh => by omega), hF2, hS.keep hw (fun k hk hh => by subst hh; exact hR hk), fun hh => by cases hh⟩

theorem good_out {e x : Edge} {l : Int} {M2 : St} {V2 : List (Edge × Int)} {D2 : DataW Unit} {F2 : Nat → Prop} {w6 w' : World} {R : Nat} (hc : Conv f g M V e l M2 V2 x 0) (hx : x.ok) (hu : Upd (fun j => F j ∨ j = b) w w6) (hF2 : ∀ j, F2 j → F j ∨ w.heap.size ≤ j) (hC : ConvCtx F2 w6 sb wb b f g M2 V2 D2)
    (hw : Upd (fun j => j = R) w6 w') (hR : ¬ F2 R) (hRw : w.heap.size ≤ R) (hb : R ≠ b) (hwb : R ≠ wb) : FromOut F w sb wb b f g M V e l (.returned (.tuple #[.agg #[.int .u8 x.tag, .int .u32 x.to], .int .u8 0])) w' :=
  ⟨M2, V2, _, 0, F2, rfl, hc, hx, .inl rfl, hu.later hw (fun i hi hh => by omega), hF2, hC.rep.keep hw (fun k hk hh => by subst hh; exact hR hk), fun _ => ⟨D2,
    hC.rep.keep hw (fun k hk hh => by subst hh; exact hR hk), hw.cellAt (fun hh => hwb hh.symm) hC.c0, hw.cellAt (fun hh => hwb hh.symm) hC.c1, hw.cellAt (fun hh => hwb hh.symm) hC.c2, hw.cellAt (fun hh => hwb hh.symm) hC.c3, hC.nF, hC.nW, ownsMap_same hC.own (hw.block b hC.lt.1 (fun hh => hb hh.symm)), hC.memo⟩⟩

set_option maxRecDepth 100000 in
set_option maxHeartbeats 6000000 in
theorem wfrom_deep (h : ConvCtx F w sb wb b f g M V D) (hV : V.Nodup) (hf : 1 ≤ f ∧ f ≤ 5) (hg : 1 ≤ g ∧ g ≤ 5) (e : Edge) (l : Int) (he : e.ok) (hl : M.leads f e l = true) (h0 : 0 ≤ l) (hln : l < M.n) (hz : e.to ≠ 0)
    (hroom : M.room < 1048576) (hcap : V.length + 2 ^ (M.n - l).toNat ≤ 1000000)
    (ih : ∀ (h : Edge) (F2 : Nat → Prop) (M2 : St) (V2 : List (Edge × Int)) (D2 : DataW Unit) (W : World), h.ok → M2.n = M.n → M2.room = M.room → M2.leads f h (l + 1) = true → V2.Nodup → V2.length + 2 ^ (M.n - (l + 1)).toNat ≤ 1000000 → ConvCtx F2 W sb wb b f g M2 V2 D2 →
      Calls Tryz.prog 64 #[.pointer (some ⟨wb, 0, none⟩), .agg #[.int .u8 h.tag, .int .u32 h.to, .int .i64 (l + 1)]] W (FromOut F2 W sb wb b f g M2 V2 h (l + 1))) :
    Calls Tryz.prog 64 #[.pointer (some ⟨wb, 0, none⟩), .agg #[.int .u8 e.tag, .int .u32 e.to, .int .i64 l]] w (FromOut F w sb wb b f g M V e l) := by
  have hn0 := h.rep.wf.n0
  have hn16 := h.rep.wf.n16
  have HC := Lib.hid h
  have HV := Lib.hid (fun (W : World) (hW : Keeps w W) => store_vars (h.rep.keeps hW))
  have c0 := h.c0
  have c3 := h.c3
  obtain ⟨hb, hwb⟩ := h.lt
  have hto : (e.to == 0) = false := by simp [hz]
  have hlk : (l == M.n) = false := by simp; omega
  have hl16 : l ≤ 16 := by omega
  obtain ⟨x, hx, hlook⟩ := h.look he h0 (by omega)
  have HX := Lib.hid hx
  obtain ⟨n, hn⟩ : ∃ n, n = M.n := ⟨_, rfl⟩
  rw [← hn] at hn0 hn16 HV hlk
  obtain ⟨hs, hhs⟩ : ∃ hs, hs = Go.Maps.has D (placeL e l) := ⟨_, rfl⟩
  rw [← hhs] at hlook
  have HLK := Lib.hid hlook
  have HHS := Lib.hid hhs
  have HVN := Lib.hid hV
  have HF := Lib.hid hf
  have HG := Lib.hid hg
  have HE := Lib.hid he
  have HL := Lib.hid hl
  have HLN := Lib.hid hln
  have HN := Lib.hid hn
  have HZ := Lib.hid hz
  have HRM := Lib.hid hroom
  have HCP := Lib.hid hcap
  have HIH := Lib.hid ih
  clear h hV hf hg hl hx hlook hhs he hn hz hroom hcap ih
  go_enter Tryz.func64, Tryz.ntmps64
  go_wp2_with fail
  obtain ⟨W1, hW1⟩ : ∃ W1, W1 = (w.alloc (.cells #[.int .u8 e.tag, .int .u32 e.to, .int .i64 l] 97)).alloc (.cells #[.int .u8 0, .int .u32 0] 31) := ⟨_, rfl⟩
  have p0 : W1.cell? ⟨w.heap.size, 0, none⟩ = some (.int .u8 e.tag) := by rw [hW1]; simp [go_sem]
  have pt : W1.cell? ⟨w.heap.size, 1, none⟩ = some (.int .u32 e.to) := by rw [hW1]; simp [go_sem]
  have p1 : W1.cell? ⟨w.heap.size, 2, none⟩ = some (.int .i64 l) := by rw [hW1]; simp [go_sem]
  have r0 : W1.cell? ⟨w.heap.size + 1, 0, none⟩ = some (.int .u8 0) := by rw [hW1]; simp [go_sem]
  have r1 : W1.cell? ⟨w.heap.size + 1, 1, none⟩ = some (.int .u32 0) := by rw [hW1]; simp [go_sem]
  have rf : ∀ o : Nat, W1.frozen? ⟨w.heap.size + 1, o, none⟩ = false := fun o => by rw [hW1]; simp [go_sem]
  have hk1 : Keeps w W1 := by rw [hW1]; exact ((Keeps.refl _).alloc _).alloc _
  have hs1 : W1.heap.size = w.heap.size + 2 := by rw [hW1]; simp
  have d0 := hk1.cell c0
  have d3 := hk1.cell c3
  rw [← hW1]
  clear hW1 c0 c3
  have HVs := Lib.hid (fun (W : World) (hW : Keeps W1 W) => HV.out W (hk1.trans hW))
  have p1k := KWorld.cell p1
  have d0k := KWorld.cell d0
  refine wp_region_keeps (W1) (by kernel_rfl) (by kernel_rfl) (by (exact kp)) ?_; (repeat (go_big_quiet_step ((first | (go_at_call 41; with_reducible refine Calls.sameK (HVs.out _ (KWorld.keep _))))))); refine wpQuiet_nil ?_; rintro wq ⟨⟨_, hkq⟩, rfl⟩; try dsimp only
  have q3 := hkq.cell d3
  have qp0 := hkq.cell p0
  have qpt := hkq.cell pt
  have qp := hkq.cell p1
  have qr0 := hkq.cell r0
  have qr1 := hkq.cell r1
  have qrf := fun o : Nat => hkq.frz (a := ⟨w.heap.size + 1, o, none⟩) (by show w.heap.size + 1 < _; omega) (rf o)
  clear p1k d0k p1 d0 d3 r0 r1 rf p0 pt
  have hk4 : Keeps w wq := hk1.trans hkq
  have hsq := hkq.size
  have bq := hk4.block b hb
  have lk1 := HLK.out wq.drew bq
  have lk2 := HLK.out (wq.alloc (.cells #[.int .u8 0, .int .u32 0] 31)).drew ((((Keeps.refl wq).alloc _).drew.block b (by omega)).trans bq)
  unfold placeV at lk1 lk2
  have n1 : wq.heap.size ≠ wb := by omega
  have n2 : wq.heap.size ≠ w.heap.size := by omega
  have HBQ := Lib.hid bq
  clear bq
  go_wp2_with fail
  go_cut [6, 7] (fun s6 s7 wx => ∃ B, s6 = .pointer (some ⟨B, 0, none⟩) ∧ s7 = .bool hs ∧ wx.cell? ⟨B, 0, none⟩ = some (.int .u8 x.tag) ∧ wx.cell? ⟨B, 1, none⟩ = some (.int .u32 x.to) ∧ Keeps wq wx)
  case first =>
    go_region_held3 (fun w' => w'.cell? ⟨wb, 3, none⟩ = some (.map (some b)) ∧ w'.cell? ⟨w.heap.size, 0, none⟩ = some (.int .u8 e.tag) ∧ w'.cell? ⟨w.heap.size, 1, none⟩ = some (.int .u32 e.to) ∧ w'.cell? ⟨w.heap.size, 2, none⟩ = some (.int .i64 l)) (go_keep) (fail)
    all_goals (try go_wp2_with fail)
    all_goals go_meet
    all_goals exact ⟨wq.heap.size, rfl, rfl, by simp [go_sem], by simp [go_sem], by (exact kp)⟩
  case rest =>
    obtain ⟨B, rfl, rfl, b0, b1, hkx⟩ := hcut
    have hk5 := hk4.trans hkx
    by_cases hm : (e, l) ∈ V
    · obtain ⟨x', a1, a2⟩ := HC.out.memo.good _ hm
      have hxx : x' = x := edgeD_inj (a1.symm.trans HX.out)
      subst hxx
      have hs1 : hs = true := by rw [HHS.out]; exact (HC.out.memo.keys e l HE.out h0 hl16).2 hm
      have HQ := Lib.hid (fun (w' : World) (hk : Keeps w w') => wfrom_same HC.out HVN.out a2 hk)
      have r0 := hkx.cell qr0
      have r1 := hkx.cell qr1
      have rf := fun o : Nat => hkx.frz (a := ⟨w.heap.size + 1, o, none⟩) (by show w.heap.size + 1 < _; omega) (qrf o)
      subst hs1
      clear a1 a2 hm
      go_wp2_with fail
      refine bodyPost_ret (v := .tuple #[.agg #[.int .u8 x'.tag, .int .u32 x'.to], .int .u8 0]) (by simp [results, Tryz.results64, go_sem, r0, r1]) rfl (HQ.out _ (by (exact kp)))
    · have hs1 : hs = false := by rw [HHS.out]; exact (HC.out.memo.none HE.out h0 hl16 hm).1
      subst hs1
      have HM := Lib.hid hm
      clear hm b0 b1
      have r0 := hkx.cell qr0
      have r1 := hkx.cell qr1
      have rf := fun o : Nat => hkx.frz (a := ⟨w.heap.size + 1, o, none⟩) (by show w.heap.size + 1 < _; omega) (qrf o)
      have p0 := hkx.cell qp0
      have pt := hkx.cell qpt
      have p1 := hkx.cell qp
      have d0 := hk5.cell HC.out.c0
      have d1 := hk5.cell HC.out.c1
      clear q3 qp0 qpt qp qr0 qr1 qrf lk1 lk2
      have hltF := HC.out.rep.lt
      have HLT := Lib.hid hltF
      clear hltF
      have hview := canon_view (HC.out.rep) f e l HE.out
      rw [kvAct_view HF.out] at hview
      have hvw := fun (W : World) (hW : Keeps w W) => canon_view (HC.out.rep.keeps hW) f e l HE.out
      rw [kvAct_view HF.out] at hvw
      clear hview
      obtain ⟨M1, hM1⟩ : ∃ M1, M1 = vSt M (viewAct M f e l) := ⟨_, rfl⟩
      obtain ⟨lo, hlo⟩ : ∃ lo, lo = vLo M (viewAct M f e l) := ⟨_, rfl⟩
      obtain ⟨hi, hhi⟩ : ∃ hi, hi = vHi M f (viewAct M f e l) := ⟨_, rfl⟩
      obtain ⟨er, her⟩ : ∃ er, er = vErr M (viewAct M f e l) := ⟨_, rfl⟩
      rw [← hM1, ← hlo, ← hhi, ← her] at hvw
      have HVW := Lib.hid (fun (W : World) (hW : Keeps wc W) => upd_boxes HLT.out hk5.size (hvw W (hk5.trans hW)))
      have HM1 := Lib.hid hM1
      have HLO := Lib.hid hlo
      have HHI := Lib.hid hhi
      have HER := Lib.hid her
      clear hvw hM1 hlo hhi her
      have nW := HC.out.nW
      have sz := hk5.size
      have HLC := Lib.hid (fun k (hk : F k) => Nat.lt_of_lt_of_le (HLT.out k hk) sz)
      have np : ¬ F w.heap.size := fun hh => by have := HLT.out _ hh; omega
      have nr : ¬ F (w.heap.size + 1) := fun hh => by have := HLT.out _ hh; omega
      have n8 : ¬ F wc.heap.size := fun hh => by have := HLT.out _ hh; omega
      have n9 : ¬ F (wc.heap.size + 1) := fun hh => by have := HLT.out _ hh; omega
      have m1 : wc.heap.size ≠ wb := by omega
      have sz2 := (hkq.trans hkx).size
      have m2 : wc.heap.size ≠ w.heap.size := by omega
      have m3 : wc.heap.size + 1 ≠ wb := by omega
      have m4 : wc.heap.size + 1 ≠ w.heap.size := by omega
      go_wp2_with fail
      go_cut [8, 9, 10] (fun s8 s9 s10 wx => ∃ B8 B9 F1, s8 = .pointer (some ⟨B8, 0, none⟩) ∧ s9 = .pointer (some ⟨B9, 0, none⟩) ∧ s10 = .int .u8 er ∧ Boxed2 F wc wx sb M1 B8 B9 lo hi F1)
      case first =>
        go_region_held3 (fun w' => w'.cell? ⟨wb, 0, none⟩ = some (.pointer (some ⟨sb, 0, none⟩)) ∧ w'.cell? ⟨wb, 1, none⟩ = some (.int .u8 f) ∧ w'.cell? ⟨w.heap.size, 0, none⟩ = some (.int .u8 e.tag) ∧ w'.cell? ⟨w.heap.size, 1, none⟩ = some (.int .u32 e.to) ∧ w'.cell? ⟨w.heap.size, 2, none⟩ = some (.int .i64 l)) (go_keep) ((go_at_call 103; refine (HVW.out _ (by (exact kp))).mono ?_; rintro e2 w2 ⟨⟨rfl, hu2, hS2⟩, hcl, hfl, hlq, hne, hnf⟩; have hsz := hu2.size; (try simp only [World.size_alloc, World.size_drew, World.size_drewN] at hsz); have y0 := hu2.cellAt (b := wb) (o := 0) (v := .pointer (some ⟨sb, 0, none⟩)) nW (by go_keep); have y1 := hu2.cellAt (b := wb) (o := 1) (v := .int .u8 f) nW (by go_keep); have y2 := hu2.cellAt (b := w.heap.size) (o := 0) (v := .int .u8 e.tag) np (by go_keep); have y3 := hu2.cellAt (b := w.heap.size) (o := 1) (v := .int .u32 e.to) np (by go_keep); have y4 := hu2.cellAt (b := w.heap.size) (o := 2) (v := .int .i64 l) np (by go_keep); have sa : w2.heap.size ≠ wb := (by omega); have sb2 : w2.heap.size ≠ w.heap.size := (by omega); have sa3 : w2.heap.size + 1 ≠ wb := (by omega); have sb3 : w2.heap.size + 1 ≠ w.heap.size := (by omega)))
        all_goals (try go_wp2_with fail)
        all_goals go_meet
        all_goals refine ⟨_, _, _, rfl, rfl, rfl, boxed2 HLC.out (by (exact kp)) hu2 hS2 ?_ ?_ ?_ ?_ ?_ ?_ ?_⟩
        all_goals (try (simp [go_sem]; done))
        all_goals (try (simp only [World.size_alloc, World.size_drew, World.size_setCell]; omega))
        all_goals (try (repeat (first | with_reducible exact Upd.refl _ _ | with_reducible refine Upd.alloc ?_ _ | with_reducible refine Upd.drew ?_ | refine Upd.setCell ?_ (Or.inl (Or.inl rfl)) _ | refine Upd.setCell ?_ (Or.inl (Or.inr rfl)) _)))
        all_goals (try (simp [go_sem, hcl, hlq, hne, hnf]; done))
        all_goals
          have z0 : w2.cell? ⟨wc.heap.size, 0, none⟩ = some (.int .u8 0) := (hcl _ _ (Nat.le_refl _) (by simp only [World.size_alloc, World.size_drew]; omega)).trans ((World.cell?_alloc_lt _ _ _ (by simp)).trans (by simp [go_sem]))
          have z1 : w2.cell? ⟨wc.heap.size, 1, none⟩ = some (.int .u32 0) := (hcl _ _ (Nat.le_refl _) (by simp only [World.size_alloc, World.size_drew]; omega)).trans ((World.cell?_alloc_lt _ _ _ (by simp)).trans (by simp [go_sem]))
          simp [go_sem, z0, z1]
      case rest =>
        obtain ⟨w5, rfl⟩ : ∃ W, W = wc := ⟨wc, rfl⟩
        obtain ⟨B8, B9, F1, rfl, rfl, rfl, hBx⟩ := hcut
        have HB := Lib.hid hBx
        have hs5 := hBx.upd.size
        replace r0 := hBx.upd.cellAt nr r0
        replace r1 := hBx.upd.cellAt nr r1
        replace rf := fun o : Nat => hBx.upd.frozen (a := ⟨w.heap.size + 1, o, none⟩) (by show w.heap.size + 1 < _; omega) nr (rf o)
        replace p1 := hBx.upd.cellAt np p1
        replace p0 := hBx.upd.cellAt np p0
        replace pt := hBx.upd.cellAt np pt
        have hC5 := HC.out.keeps hk5
        have hu5 : Upd F w w5 := (Keeps.upd hk5 F).trans' hBx.upd
        have HU5 := Lib.hid hu5
        have HC5 := Lib.hid hC5
        clear hBx d0 d1 hC5 hu5 hk1 hkq hkx hk4
        by_cases he1 : er = 0
        · subst he1
          have hER0 : vErr M (viewAct M f e l) = 0 := HER.out.symm
          have hv := viewed HC.out.rep.wf HL.out HLN.out hER0
          have hm0 := mid_view HC.out.rep.wf HVN.out HL.out HLN.out hER0
          obtain ⟨k1, k2⟩ := view_half HC.out.rep.wf HL.out h0 HLN.out hER0
          rw [← HM1.out, ← HLO.out, ← HHI.out] at hv
          rw [← HM1.out] at hm0 k1 k2
          rw [← HLO.out] at k1
          rw [← HHI.out] at k2
          obtain ⟨hlok, hhok⟩ := view_fit HC.out.rep.wf HC.out.rep.few (fun id r hr => HC.out.rep.fit hr) (f := f) HE.out h0 HLN.out
          rw [← HLO.out] at hlok
          rw [← HHI.out] at hhok
          have hC1 : ConvCtx F1 w5 sb wb b f g M1 V D := HC5.out.store HB.out.upd HB.out.rep HB.out.sub hv.ext HF.out HG.out
          have e2 : 2 ^ (M.n - l).toNat = 2 ^ (M.n - (l + 1)).toNat * 2 := by have := HLN.out; rw [show (M.n - l).toNat = (M.n - (l + 1)).toNat + 1 by omega, Nat.pow_succ]
          have hcap := HCP.out
          rw [e2] at hcap
          obtain ⟨P, hP⟩ : ∃ P, P = 2 ^ (M.n - (l + 1)).toNat := ⟨_, rfl⟩
          have hcl1 := HIH.out lo F1 M1 V D w5 hlok hv.ext.n hv.room hv.llo HVN.out (by rw [← hP] at hcap ⊢; omega) hC1
          have sub5 : ∀ j, F1 j → F j ∨ w.heap.size ≤ j := fun j hj => by
            rcases HB.out.sub j hj with q | q
            · exact .inl q
            · exact .inr (by omega)
          have n5r : ¬ F1 (w.heap.size + 1) := fun hk => by
            rcases HB.out.sub _ hk with q | q
            · exact nr q
            · omega
          have n5p : ¬ F1 w.heap.size := fun hk => by
            rcases HB.out.sub _ hk with q | q
            · exact np q
            · omega
          have x9 := HB.out.c0
          have x9' := HB.out.c1
          have x8 := HB.out.a0
          have x8' := HB.out.a1
          have b9 := hC1.neCell x9
          have br := hC1.neCell r0
          have bp := hC1.neCell p1
          have HCL1 := Lib.hid hcl1
          have HV0 := Lib.hid hv
          have HM0 := Lib.hid hm0
          have HK1 := Lib.hid k1
          have HK2 := Lib.hid k2
          have HHOK := Lib.hid hhok
          have HP := Lib.hid hP
          have HCAP := Lib.hid hcap
          have HE2 := Lib.hid e2
          have HS5 := Lib.hid sub5
          have n9F := HB.out.nC
          clear hv hm0 k1 k2 hlok hhok hC1 hcap hP hcl1 hER0 e2 sub5
          go_wp2_with fail
          refine HCL1.out.mono ?_
          rintro r w6 ⟨M2, V2, x1, er1, F2, rfl, hc1, hx1, her1, hu2, hF2, hS2, hD2⟩
          have hu26 : Upd (fun j => F j ∨ j = b) w w6 := (HU5.out.mono (fun k _ hk => .inl hk)).later hu2 (fun i hi hh => by
            rcases hh with hh | hh
            · rcases HB.out.sub _ hh with q | q
              · exact .inl q
              · omega
            · exact .inr hh)
          have sub6 : ∀ j, F2 j → F j ∨ w.heap.size ≤ j := fun j hj => by
            rcases hF2 j hj with q | q
            · exact HS5.out j q
            · exact .inr (by omega)
          have hs6 := hu2.size
          have no6 : ∀ X, ¬ F1 X → X < w5.heap.size → ¬ F2 X := fun X h1 h2 hk => by
            rcases hF2 X hk with q | q
            · exact h1 q
            · omega
          have n6r := no6 _ n5r (by omega)
          have n6p := no6 _ n5p (by omega)
          replace r0 := hu2.cellAt (fun hh => by rcases hh with hh | hh; exact n5r hh; exact br hh) r0
          replace r1 := hu2.cellAt (fun hh => by rcases hh with hh | hh; exact n5r hh; exact br hh) r1
          replace rf := fun o : Nat => hu2.frozen (a := ⟨w.heap.size + 1, o, none⟩) (by show w.heap.size + 1 < _; omega) (fun hh => by rcases hh with hh | hh; exact n5r hh; exact br hh) (rf o)
          replace p1 := hu2.cellAt (fun hh => by rcases hh with hh | hh; exact n5p hh; exact bp hh) p1
          replace p0 := hu2.cellAt (fun hh => by rcases hh with hh | hh; exact n5p hh; exact bp hh) p0
          replace pt := hu2.cellAt (fun hh => by rcases hh with hh | hh; exact n5p hh; exact bp hh) pt
          replace x9 := hu2.cellAt (fun hh => by rcases hh with hh | hh; exact n9F hh; exact b9 hh) x9
          replace x9' := hu2.cellAt (fun hh => by rcases hh with hh | hh; exact n9F hh; exact b9 hh) x9'
          have l9 := lt_of_cell HB.out.c0
          dsimp only at l9
          have n69 := no6 _ n9F l9
          have l6r : w.heap.size + 1 < w6.heap.size := by omega
          have l6p : w.heap.size < w6.heap.size := by omega
          have l69 : B9 < w6.heap.size := by omega
          have l6w : wb < w6.heap.size := by omega
          have HU6 := Lib.hid hu26
          have HS6 := Lib.hid sub6
          have HC1 := Lib.hid hc1
          have HX1 := Lib.hid hx1
          have HS2 := Lib.hid hS2
          have HD2 := Lib.hid hD2
          have hm1 := HM0.out.conv HK1.out hc1
          have HM1' := Lib.hid hm1
          clear hu26 sub6 hc1 hx1 hS2 hD2 hu2 hF2 no6 hm1 HCL1
          rcases her1 with rfl | rfl
          · obtain ⟨D2, hC2⟩ := HD2.out rfl
            have hfew1 := HC1.out.few
            have hcl2 := fun (W : World) (hW : Keeps w6 W) => HIH.out hi F2 M2 V2 D2 W HHOK.out (HC1.out.ext.n.trans HV0.out.ext.n) (HC1.out.room.trans HV0.out.room) (HC1.out.ext.leads HV0.out.lhi) HC1.out.once (by have := HCAP.out; have hn := HV0.out.ext.n; rw [hn] at hfew1; rw [← HP.out] at this hfew1 ⊢; omega) (hC2.keeps hW)
            have br := hC2.neCell r0
            have bp := hC2.neCell p1
            have lb2 := hC2.lt.1
            have n6n : ¬ F2 w6.heap.size := fun hh => by have := hC2.rep.lt _ hh; omega
            have HCL2 := Lib.hid hcl2
            clear hcl2 hC2 hfew1 x8 x8' b9
            go_wp2_with fail
            have k7 : Keeps w6 (w6.alloc (.cells #[.int .u8 x1.tag, .int .u32 x1.to] 31)) := (Keeps.refl _).alloc _
            replace r0 := k7.cell r0
            replace r1 := k7.cell r1
            replace rf := fun o : Nat => k7.frz (a := ⟨w.heap.size + 1, o, none⟩) (by show w.heap.size + 1 < _; omega) (rf o)
            replace p1 := k7.cell p1
            replace p0 := k7.cell p0
            replace pt := k7.cell pt
            have y0 : (w6.alloc (.cells #[.int .u8 x1.tag, .int .u32 x1.to] 31)).cell? ⟨w6.heap.size, 0, none⟩ = some (.int .u8 x1.tag) := by simp [go_sem]
            have y1 : (w6.alloc (.cells #[.int .u8 x1.tag, .int .u32 x1.to] 31)).cell? ⟨w6.heap.size, 1, none⟩ = some (.int .u32 x1.to) := by simp [go_sem]
            have hu67 := HU6.out.alloc (.cells #[.int .u8 x1.tag, .int .u32 x1.to] 31)
            have hs67 : (w6.alloc (.cells #[.int .u8 x1.tag, .int .u32 x1.to] 31)).heap.size = w6.heap.size + 1 := by simp
            refine (HCL2.out _ k7).mono ?_
            obtain ⟨w7, hw7⟩ : ∃ W, W = w6.alloc (.cells #[.int .u8 x1.tag, .int .u32 x1.to] 31) := ⟨_, rfl⟩
            rw [← hw7] at k7 r0 r1 rf p1 p0 pt y0 y1 hu67 hs67 ⊢
            clear hw7 HCL2 x9 x9'
            rintro r w8 ⟨M3, V3, x2, er2, F3, rfl, hc2, hx2, her2, hu3, hF3, hS3, hD3⟩
            have hu38 : Upd (fun j => F j ∨ j = b) w w8 := hu67.later hu3 (fun i hi hh => by
              rcases hh with hh | hh
              · rcases HS6.out _ hh with q | q
                · exact .inl q
                · omega
              · exact .inr hh)
            have sub8 : ∀ j, F3 j → F j ∨ w.heap.size ≤ j := fun j hj => by
              rcases hF3 j hj with q | q
              · exact HS6.out j q
              · exact .inr (by omega)
            have hs8 := hu3.size
            have no8 : ∀ X, ¬ F2 X → X < w7.heap.size → ¬ F3 X := fun X h1 h2 hk => by
              rcases hF3 X hk with q | q
              · exact h1 q
              · omega
            have n8r := no8 _ n6r (by omega)
            have n8p := no8 _ n6p (by omega)
            have n8n := no8 _ n6n (by omega)
            replace r0 := hu3.cellAt (fun hh => by rcases hh with hh | hh; exact n6r hh; exact br hh) r0
            replace r1 := hu3.cellAt (fun hh => by rcases hh with hh | hh; exact n6r hh; exact br hh) r1
            replace rf := fun o : Nat => hu3.frozen (a := ⟨w.heap.size + 1, o, none⟩) (by show w.heap.size + 1 < _; omega) (fun hh => by rcases hh with hh | hh; exact n6r hh; exact br hh) (rf o)
            replace p1 := hu3.cellAt (fun hh => by rcases hh with hh | hh; exact n6p hh; exact bp hh) p1
            replace p0 := hu3.cellAt (fun hh => by rcases hh with hh | hh; exact n6p hh; exact bp hh) p0
            replace pt := hu3.cellAt (fun hh => by rcases hh with hh | hh; exact n6p hh; exact bp hh) pt
            replace y0 := hu3.cellAt (fun hh => by rcases hh with hh | hh; exact n6n hh; omega) y0
            replace y1 := hu3.cellAt (fun hh => by rcases hh with hh | hh; exact n6n hh; omega) y1
            have l8r : w.heap.size + 1 < w8.heap.size := by omega
            have l8p : w.heap.size < w8.heap.size := by omega
            have l8n : w6.heap.size < w8.heap.size := by omega
            have l8w : wb < w8.heap.size := by omega
            have HU8 := Lib.hid hu38
            have HS8 := Lib.hid sub8
            have HC2 := Lib.hid hc2
            have HX2 := Lib.hid hx2
            have HS3 := Lib.hid hS3
            have HD3 := Lib.hid hD3
            have HM2' := Lib.hid (HM1'.out.conv (HK2.out.ext HC1.out.ext HM0.out.wf HC1.out.wf) hc2)
            clear hu38 sub8 hc2 hx2 hS3 hD3 hu3 hF3 no8 k7 hu67 n6r n6p n6n n69 l69 l6r l6p l6w
            rcases her2 with rfl | rfl
            · obtain ⟨D3, hC3⟩ := HD3.out rfl
              have hg1 := (HC1.out.good rfl)
              have hlen3 : M3.len < 1048576 := by have := HC2.out.wf.full; have := HC2.out.room; have := HC1.out.room; have := HV0.out.room; have := HRM.out; omega
              have hok3 : (mkE g M3 (mkK g M3 l x1 x2)).ok := mkK_ok HC2.out.wf hC3.rep.few HX1.out HX2.out h0 (by omega) HG.out
              have hconv : Conv f g M V e l (actSt M3 (mkK g M3 l x1 x2)) (V3 ++ [(e, l)]) (mkE g M3 (mkK g M3 l x1 x2)) (actErr M3 (mkK g M3 l x1 x2)) := by
                have a1 := HC1.out
                have a2 := HC2.out
                rw [HM1.out, HLO.out] at a1
                rw [HHI.out] at a2
                exact conv_make HC.out.rep.wf HF.out HG.out HL.out h0 HLN.out HZ.out HM.out HER.out.symm HVN.out a1 a2 hlen3 hok3
              have hmk := fun (W : World) (hW : Keeps w8 W) => canon_make (hC3.rep.keeps hW) g l x1 x2 HX1.out HX2.out
              rw [kAct_mkK HG.out] at hmk
              change ∀ W, Keeps w8 W → Calls _ _ _ W fun r w' => r = .returned (.tuple #[.agg #[.int .u8 (mkE g M3 (mkK g M3 l x1 x2)).tag, .int .u32 (mkE g M3 (mkK g M3 l x1 x2)).to], .int .u8 (actErr M3 (mkK g M3 l x1 x2))]) ∧ Upd F3 W w' ∧ StoreRep (Grow F3 W w') w' sb (actSt M3 (mkK g M3 l x1 x2)) at hmk
              obtain ⟨M4, hM4⟩ : ∃ M4, M4 = actSt M3 (mkK g M3 l x1 x2) := ⟨_, rfl⟩
              obtain ⟨z, hz4⟩ : ∃ z, z = mkE g M3 (mkK g M3 l x1 x2) := ⟨_, rfl⟩
              obtain ⟨er4, her4⟩ : ∃ er4, er4 = actErr M3 (mkK g M3 l x1 x2) := ⟨_, rfl⟩
              rw [← hM4, ← hz4, ← her4] at hmk hconv
              rw [← hz4] at hok3
              have hlt3 := hC3.rep.lt
              have HMK := Lib.hid (fun (W : World) (hW : Keeps (w8.alloc (.cells #[.int .u8 x2.tag, .int .u32 x2.to] 31)) W) => upd_boxes (wc := w8.alloc (.cells #[.int .u8 x2.tag, .int .u32 x2.to] 31)) hlt3 (by simp) (hmk W (((Keeps.refl _).alloc _).trans hW)))
              have HCV := Lib.hid hconv
              have HOK3 := Lib.hid hok3
              have HC3 := Lib.hid hC3
              have HLT3 := Lib.hid hlt3
              have HM4 := Lib.hid hM4
              have n8w := hC3.nW
              have br := hC3.neCell r0
              have bp := hC3.neCell p1
              have b8 := hC3.lt.1
              clear hmk hconv hok3 hC3 hlt3 hM4 hz4 her4 hg1 hlen3
              go_wp2_with fail
              have k9 : Keeps w8 (w8.alloc (.cells #[.int .u8 x2.tag, .int .u32 x2.to] 31)) := (Keeps.refl _).alloc _
              have z0 : (w8.alloc (.cells #[.int .u8 x2.tag, .int .u32 x2.to] 31)).cell? ⟨w8.heap.size, 0, none⟩ = some (.int .u8 x2.tag) := by simp [go_sem]
              have z1 : (w8.alloc (.cells #[.int .u8 x2.tag, .int .u32 x2.to] 31)).cell? ⟨w8.heap.size, 1, none⟩ = some (.int .u32 x2.to) := by simp [go_sem]
              have hs89 : (w8.alloc (.cells #[.int .u8 x2.tag, .int .u32 x2.to] 31)).heap.size = w8.heap.size + 1 := by simp
              have hu89 := HU8.out.alloc (.cells #[.int .u8 x2.tag, .int .u32 x2.to] 31)
              obtain ⟨w9, hw9⟩ : ∃ W, W = w8.alloc (.cells #[.int .u8 x2.tag, .int .u32 x2.to] 31) := ⟨_, rfl⟩
              rw [← hw9] at k9 z0 z1 hs89 hu89 HMK ⊢
              obtain ⟨g91, g92⟩ : w8.heap.size + 1 ≤ w9.heap.size ∧ w9.heap.size ≤ w8.heap.size + 1 := by omega
              clear hw9 hs89
              replace r0 := k9.cell r0
              replace r1 := k9.cell r1
              replace rf := fun o : Nat => k9.frz (a := ⟨w.heap.size + 1, o, none⟩) (by show w.heap.size + 1 < _; omega) (rf o)
              replace p1 := k9.cell p1
              replace p0 := k9.cell p0
              replace pt := k9.cell pt
              replace y0 := k9.cell y0
              replace y1 := k9.cell y1
              have c90 := k9.cell HC3.out.c0
              have c92 := k9.cell HC3.out.c2
              have n9n : ¬ F3 w8.heap.size := fun hh => by have := HLT3.out _ hh; omega
              have n99 : ¬ F3 w9.heap.size := fun hh => by have := HLT3.out _ hh; omega
              have d1 : w9.heap.size ≠ wb := by omega
              have d2 : w9.heap.size ≠ w.heap.size := by omega
              have d3 : w9.heap.size ≠ w6.heap.size := by omega
              have d4 : w9.heap.size ≠ w8.heap.size := by omega
              have HC9 := Lib.hid (HC3.out.keeps k9)
              have HU9 := Lib.hid hu89
              have HL9 := Lib.hid (fun k (hk : F3 k) => Nat.lt_of_lt_of_le (HLT3.out k hk) (show w8.heap.size ≤ w9.heap.size by omega))
              clear k9 hu89
              go_cut [13, 10] (fun s13 s10 wx => ∃ B13 F4, s13 = .pointer (some ⟨B13, 0, none⟩) ∧ s10 = .int .u8 er4 ∧ Boxed2 F3 w9 wx sb M4 B13 B13 z z F4)
              case first =>
                go_region_held3 (fun w' => w'.cell? ⟨wb, 0, none⟩ = some (.pointer (some ⟨sb, 0, none⟩)) ∧ w'.cell? ⟨wb, 2, none⟩ = some (.int .u8 g) ∧ w'.cell? ⟨w.heap.size, 2, none⟩ = some (.int .i64 l) ∧ w'.cell? ⟨w6.heap.size, 0, none⟩ = some (.int .u8 x1.tag) ∧ w'.cell? ⟨w6.heap.size, 1, none⟩ = some (.int .u32 x1.to) ∧ w'.cell? ⟨w8.heap.size, 0, none⟩ = some (.int .u8 x2.tag) ∧ w'.cell? ⟨w8.heap.size, 1, none⟩ = some (.int .u32 x2.to)) (go_keep) ((go_at_call 43; refine (HMK.out _ (by (exact kp))).mono ?_; rintro e2 w2 ⟨⟨rfl, hu2, hS2⟩, hcl, hfl, hlq, hne, hnf⟩; have hsz := hu2.size; (try simp only [World.size_alloc, World.size_drew, World.size_drewN] at hsz); have t0 := hu2.cellAt (b := wb) (o := 0) (v := .pointer (some ⟨sb, 0, none⟩)) n8w (by go_keep); have t1 := hu2.cellAt (b := wb) (o := 2) (v := .int .u8 g) n8w (by go_keep); have t2 := hu2.cellAt (b := w.heap.size) (o := 2) (v := .int .i64 l) n8p (by go_keep); have t3 := hu2.cellAt (b := w6.heap.size) (o := 0) (v := .int .u8 x1.tag) n8n (by go_keep); have t4 := hu2.cellAt (b := w6.heap.size) (o := 1) (v := .int .u32 x1.to) n8n (by go_keep); have t5 := hu2.cellAt (b := w8.heap.size) (o := 0) (v := .int .u8 x2.tag) n9n (by go_keep); have t6 := hu2.cellAt (b := w8.heap.size) (o := 1) (v := .int .u32 x2.to) n9n (by go_keep); have sa : w2.heap.size ≠ wb := (by omega); have sc : w2.heap.size ≠ w.heap.size := (by omega); have sd : w2.heap.size ≠ w6.heap.size := (by omega); have se : w2.heap.size ≠ w8.heap.size := (by omega)))
                all_goals (try go_wp2_with fail)
                all_goals go_meet
                all_goals refine ⟨_, _, rfl, rfl, boxed2 HL9.out (by (exact kp)) hu2 hS2 ?_ ?_ ?_ ?_ ?_ ?_ ?_⟩
                all_goals (try (simp [go_sem]; done))
                all_goals (try (simp only [World.size_alloc, World.size_drew, World.size_setCell]; omega))
                all_goals (try (repeat (first | with_reducible exact Upd.refl _ _ | with_reducible refine Upd.alloc ?_ _ | with_reducible refine Upd.drew ?_ | refine Upd.setCell ?_ (Or.inl (Or.inl rfl)) _)))
                all_goals (simp [go_sem, hcl, hlq, hne, hnf]; done)
              case rest =>
                obtain ⟨wa, rfl⟩ : ∃ W, W = wc := ⟨wc, rfl⟩
                obtain ⟨B13, F4, rfl, rfl, hBx⟩ := hcut
                have hsa := hBx.upd.size
                replace r0 := hBx.upd.cellAt n8r r0
                replace r1 := hBx.upd.cellAt n8r r1
                replace rf := fun o : Nat => hBx.upd.frozen (a := ⟨w.heap.size + 1, o, none⟩) (by show w.heap.size + 1 < _; omega) n8r (rf o)
                replace p1 := hBx.upd.cellAt n8p p1
                replace p0 := hBx.upd.cellAt n8p p0
                replace pt := hBx.upd.cellAt n8p pt
                have a0 := hBx.a0
                have a1 := hBx.a1
                have hua : Upd (fun j => F j ∨ j = b) w wa := HU9.out.later hBx.upd (fun i hi hh => by
                  rcases HS8.out _ hh with q | q
                  · exact .inl q
                  · omega)
                have suba : ∀ j, F4 j → F j ∨ w.heap.size ≤ j := fun j hj => by
                  rcases hBx.sub j hj with q | q
                  · exact HS8.out j q
                  · exact .inr (by omega)
                have nar : ¬ F4 (w.heap.size + 1) := fun hk => by
                  rcases hBx.sub _ hk with q | q
                  · exact n8r q
                  · omega
                have g13 := hBx.gB
                have dr : w.heap.size + 1 ≠ B13 := by omega
                have lar : w.heap.size + 1 < wa.heap.size := by omega
                have HBX := Lib.hid hBx
                have HUA := Lib.hid hua
                have HSA := Lib.hid suba
                clear hBx hua suba y0 y1 z0 z1 c90 c92
                by_cases he4 : er4 = 0
                · subst he4
                  have hC4 := HC9.out.store HBX.out.upd HBX.out.rep HBX.out.sub (by rw [HM4.out]; exact act_ext HC2.out.wf _) HF.out HG.out
                  have hgood := HCV.out.good rfl
                  have hl4 : M4.leads f e l = true := HCV.out.ext.leads HL.out
                  have hp4 : (e, l) ∉ V3 := HM2'.out.fresh HM.out
                  have hcap4 : V3.length < maxLen := by
                    have h1 := HM2'.out.few
                    have h2 := HCAP.out
                    rw [← HP.out] at h1 h2
                    unfold maxLen
                    omega
                  obtain ⟨w11, hrun, hown, hg11⟩ := (ownsMap_same (W' := wa.drew) hC4.own rfl).update lawPlace Tryz.underlying92 hcap4 (keyPlace e l HE.out h0 hl16) (edgeElem_mk z)
                  have hu11 := Upd.of_grown hg11
                  have hC11 := (hC4.keeps (Keeps.refl wa).drew).put hu11 hown HE.out h0 hl16 hl4 hp4 hgood
                  unfold placeV at hrun
                  have c3 := hC4.c3
                  have br := hC4.neCell r0
                  have bp := hC4.neCell p1
                  have b13 := hC4.neCell a0
                  have bw := hC4.neCell hC4.c0
                  have u0 := hu11.cellAt (b := w.heap.size + 1) (o := 0) (v := .int .u8 0) br r0
                  have u1 := hu11.cellAt (b := w.heap.size + 1) (o := 1) (v := .int .u32 0) br r1
                  have uf := fun o : Nat => hu11.frozen (a := ⟨w.heap.size + 1, o, none⟩) (by show w.heap.size + 1 < wa.heap.size; omega) br (rf o)
                  have u2 := hu11.cellAt (b := w.heap.size) (o := 0) (v := .int .u8 e.tag) bp p0
                  have u3 := hu11.cellAt (b := w.heap.size) (o := 1) (v := .int .u32 e.to) bp pt
                  have u4 := hu11.cellAt (b := w.heap.size) (o := 2) (v := .int .i64 l) bp p1
                  have u5 := hu11.cellAt (b := B13) (o := 0) (v := .int .u8 z.tag) b13 a0
                  have u6 := hu11.cellAt (b := B13) (o := 1) (v := .int .u32 z.to) b13 a1
                  have u7 := hu11.cellAt (b := wb) (o := 3) (v := .map (some b)) bw c3
                  have hs11 := hu11.size
                  have hs11' : wa.heap.size ≤ w11.heap.size := hs11
                  have hFO := fun (w' : World) (hw' : Upd (fun j => j = w.heap.size + 1) w11 w') => good_out (wb := wb) HCV.out HOK3.out (HUA.out.drew.later hu11 (fun i hi hh => .inr hh)) HSA.out hC11 hw' nar (by omega) br (by omega)
                  have HFO := Lib.hid hFO
                  have HRUN := Lib.hid hrun
                  clear hFO hC4 hgood hl4 hp4 hcap4 hown hg11 hu11 hC11 br bp b13 bw
                  go_wp2_with fail
                  go_region_held3 (fun w' => w'.cell? ⟨wb, 3, none⟩ = some (.map (some b)) ∧ w'.cell? ⟨w.heap.size, 0, none⟩ = some (.int .u8 e.tag) ∧ w'.cell? ⟨w.heap.size, 1, none⟩ = some (.int .u32 e.to) ∧ w'.cell? ⟨w.heap.size, 2, none⟩ = some (.int .i64 l) ∧ w'.cell? ⟨B13, 0, none⟩ = some (.int .u8 z.tag) ∧ w'.cell? ⟨B13, 1, none⟩ = some (.int .u32 z.to)) (go_keep) (fail)
                  go_wp2_with fail
                  refine bodyPost_ret (v := .tuple #[.agg #[.int .u8 z.tag, .int .u32 z.to], .int .u8 0]) (by simp [results, Tryz.results64, go_sem, u0, u1]) rfl (HFO.out _ ?_)
                  (repeat (first | with_reducible exact Upd.refl _ _ | refine updR ?_ _ _ | with_reducible refine Upd.alloc ?_ _ | with_reducible refine Upd.drew ?_))
                · obtain ⟨q1, q2, q3⟩ := HCV.out.full he4
                  subst q1 q2
                  have hFO := fun (w' : World) (hw' : Upd (fun j => j = w.heap.size + 1) wa w') => full_out (wb := wb) HCV.out HUA.out HSA.out HBX.out.rep hw' nar (by omega)
                  have HFO := Lib.hid hFO
                  clear hFO he4 q3
                  go_wp2_with fail
                  refine bodyPost_ret (v := .tuple #[.agg #[.int .u8 (⟨0, 0⟩ : Edge).tag, .int .u32 (⟨0, 0⟩ : Edge).to], .int .u8 6]) (by simp [results, Tryz.results64, go_sem, r0, r1]) rfl (HFO.out _ ?_)
                  (repeat (first | with_reducible exact Upd.refl _ _ | refine updR ?_ _ _ | with_reducible refine Upd.alloc ?_ _ | with_reducible refine Upd.drew ?_))
            · obtain ⟨q1, q2, q3⟩ := HC2.out.full (by decide)
              have hfull := HM2'.out.full (g := g) HLN.out HZ.out HM.out (by omega) rfl q3
              have hFO := fun (w' : World) (hw' : Upd (fun j => j = w.heap.size + 1) w8 w') => full_out (wb := wb) hfull HU8.out HS8.out HS3.out hw' n8r (by omega)
              have HFO := Lib.hid hFO
              clear hFO hfull q1 q2 q3
              go_wp2_with fail
              refine bodyPost_ret (v := .tuple #[.agg #[.int .u8 (⟨0, 0⟩ : Edge).tag, .int .u32 (⟨0, 0⟩ : Edge).to], .int .u8 6]) (by simp [results, Tryz.results64, go_sem, r0, r1, l8r, World.cell?_alloc_lt]) rfl (HFO.out _ ?_)
              (repeat (first | with_reducible exact Upd.refl _ _ | refine updR ?_ _ _ | with_reducible refine Upd.alloc ?_ _ | with_reducible refine Upd.drew ?_))
          · obtain ⟨q1, q2, q3⟩ := HC1.out.full (by decide)
            have hfull := HM1'.out.full (g := g) HLN.out HZ.out HM.out (by omega) rfl q3
            have hFO := fun (w' : World) (hw' : Upd (fun j => j = w.heap.size + 1) w6 w') => full_out (wb := wb) hfull HU6.out HS6.out HS2.out hw' n6r (by omega)
            have HFO := Lib.hid hFO
            clear hFO hfull q1 q2 q3
            go_wp2_with fail
            refine bodyPost_ret (v := .tuple #[.agg #[.int .u8 (⟨0, 0⟩ : Edge).tag, .int .u32 (⟨0, 0⟩ : Edge).to], .int .u8 6]) (by simp [results, Tryz.results64, go_sem, r0, r1, l6r, World.cell?_alloc_lt]) rfl (HFO.out _ ?_)
            (repeat (first | with_reducible exact Upd.refl _ _ | refine updR ?_ _ _ | with_reducible refine Upd.alloc ?_ _ | with_reducible refine Upd.drew ?_))
        · have hne := HER.out ▸ he1
          obtain ⟨q1, q2, q3⟩ := conv_full HC.out.rep.wf HVN.out HL.out HLN.out HZ.out HM.out hne
          obtain rfl : er = 6 := HER.out.trans q1
          have hM1 : M1 = M := HM1.out.trans q2
          have hnR : ¬ F1 (w.heap.size + 1) := fun hk => by
            rcases HB.out.sub _ hk with q | q
            · exact nr q
            · omega
          have hsub : ∀ j, F1 j → F j ∨ w.heap.size ≤ j := fun j hj => by
            rcases HB.out.sub j hj with q | q
            · exact .inl q
            · exact .inr (by omega)
          have hrep := HB.out.rep
          rw [hM1] at hrep
          have hFO := fun (w' : World) (hw' : Upd (fun j => j = w.heap.size + 1) w5 w') => full_out (wb := wb) (b := b) q3 (HU5.out.mono (fun k _ hk => .inl hk)) hsub hrep hw' hnR (by omega)
          have HFO := Lib.hid hFO
          clear hFO hM1 hsub hrep
          go_wp2_with fail
          refine bodyPost_ret (v := .tuple #[.agg #[.int .u8 (⟨0, 0⟩ : Edge).tag, .int .u32 (⟨0, 0⟩ : Edge).to], .int .u8 6]) (by simp [results, Tryz.results64, go_sem, r0, r1]) rfl (HFO.out _ ?_)
          (repeat (first | with_reducible exact Upd.refl _ _ | refine updR ?_ _ _ | with_reducible refine Upd.alloc ?_ _ | with_reducible refine Upd.drew ?_))

end

end Go.Proofs.YtiacdpoldgfpbaaGreat
