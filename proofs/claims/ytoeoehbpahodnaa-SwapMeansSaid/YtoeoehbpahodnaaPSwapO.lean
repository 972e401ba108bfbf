/-
  Rows of ints and of roots that came in, opened; law26.roots.
-/
import Derived.Test.YtoeoehbpahodnaaPSwapR
namespace Go.Proofs.Ytoeoehbpahodnaa
set_option linter.unusedSimpArgs false
set_option linter.unusedVariables false
set_option maxHeartbeats 600000
open Go.ChangeShapes Go.WideShapes Go.ChangeAt Go.RowKit

def IsInts (w : World) (a : Option Addr) (len : Nat) (ps : List Int) : Prop := ps.length = len ∧ IntsAt w a ps ∧ ∀ x ∈ ps, (Lit.int .i64 x).wf = true

def IsRootRow (w : World) (a : Option Addr) (len : Nat) (rs : List (Int × Edge)) : Prop := rs.length = len ∧ IsRoots w a rs

set_option maxRecDepth 100000 in
theorem open_intRow {H : Type} {enc : TypeId × Value → H} {W : World} {base : Nat} {spare : Nat → Bool} {held : Bool} {a : Option Addr} {len cap : Nat} {d : DataW H} {p : List MemPlace}
    (h : DataW.Trod enc Try.prog W base spare held 23 (.slice a len cap) d p) : ∃ ps : List Int, IsInts W a len ps := by
  obtain ⟨rs, h1, h2⟩ := open_structs (k := 1) (fun (r : Int) cs => (Lit.int .i64 r).wf = true ∧ cs = [.int .i64 r]) Try.underlying23 (by kernel_rfl) (by decide) (fun n cs x hx => by
    obtain ⟨r, h1, _, h2⟩ := DataW.trod_int Try.underlying3 hx
    exact ⟨by rw [h1]; rfl, r, h2, h1⟩) h
  refine ⟨rs, h1, fun i r hr => ?_, fun x hx => ?_⟩
  · obtain ⟨b, off, cs, ha, ⟨hok, rfl⟩, hc⟩ := h2 i r hr
    have := hc 0 (by decide)
    rw [Nat.mul_one, Nat.add_zero] at this
    exact ⟨b, off, ha, this⟩
  · obtain ⟨i, hi⟩ := List.mem_iff_getElem?.1 hx
    obtain ⟨b, off, cs, ha, ⟨hok, rfl⟩, hc⟩ := h2 i x hi
    exact hok

instance : Inhabited (Int × Edge) := ⟨(0, Edge.zero)⟩

set_option maxRecDepth 100000 in
theorem root_cells {H : Type} {enc : TypeId × Value → H} {W : World} {base : Nat} {spare : Nat → Bool} {held : Bool} {n : Nat} {cs : List Value} {x : DataW H × List MemPlace}
    (h : DataW.trod enc Try.prog W base spare held n 94 cs = some x) : ∃ r : Int × Edge, ((0 ≤ r.1 ∧ r.1 ≤ 255) ∧ r.2.ok) ∧ cs = [.int .u8 r.1, .int .u8 r.2.tag, .int .u32 r.2.to] := by
  obtain ⟨xs, m, _, _, hlen, hxs, hf⟩ := DataW.trod_struct Try.underlying94 h
  have hC : Try.prog.cellsOf 94 = 3 := by kernel_rfl
  have C8 : Try.prog.cellsOf 5 = 1 := by kernel_rfl
  have CE : Try.prog.cellsOf 63 = 2 := by kernel_rfl
  rw [hC] at hlen
  have f0 := hf 0 _ rfl
  have f1 := hf 1 _ rfl
  rw [List.getElem?_eq_getElem (by rw [hxs]; decide)] at f0 f1
  obtain ⟨a, ha, _, wa⟩ := DataW.trod_int Try.underlying5 f0
  obtain ⟨e, we, he⟩ := edge_cells f1
  match cs, hlen with
  | [c0, c1, c2], _ =>
    simp [C8, CE] at ha he
    refine ⟨(a, e), ⟨wf_u8 wa, we⟩, ?_⟩
    rw [ha, he.1, he.2]

set_option maxRecDepth 100000 in
theorem open_rootRow {H : Type} {enc : TypeId × Value → H} {W : World} {base : Nat} {spare : Nat → Bool} {held : Bool} {a : Option Addr} {len cap : Nat} {d : DataW H} {p : List MemPlace}
    (h : DataW.Trod enc Try.prog W base spare held 24 (.slice a len cap) d p) : ∃ rs : List (Int × Edge), IsRootRow W a len rs := by
  obtain ⟨rs, h1, h2⟩ := open_structs (k := 3) (fun (r : Int × Edge) cs => ((0 ≤ r.1 ∧ r.1 ≤ 255) ∧ r.2.ok) ∧ cs = [.int .u8 r.1, .int .u8 r.2.tag, .int .u32 r.2.to]) Try.underlying24 (by kernel_rfl) (by decide) (fun n cs x hx => by
    obtain ⟨r, h1, h2⟩ := root_cells hx
    exact ⟨by rw [h2]; rfl, r, h1, h2⟩) h
  refine ⟨rs, h1, fun i r hr => ?_⟩
  obtain ⟨b, off, cs, ha, ⟨hok, rfl⟩, hc⟩ := h2 i r hr
  have c0 := hc 0 (by decide)
  rw [Nat.add_zero] at c0
  exact ⟨hok.1, hok.2, b, off, ha, c0, hc 1 (by decide), hc 2 (by decide)⟩

end Go.Proofs.Ytoeoehbpahodnaa

namespace Go.Proofs.Ytoeoehbpahodnaa
set_option linter.unusedSimpArgs false
set_option linter.unusedVariables false
set_option maxHeartbeats 600000
open Go.RowKit

theorem bitI_vb (X : Nat) (v : Int) : bitI (bitB (X : Int) v) = (vb X v : Int) := by
  unfold vb
  cases bitB (X : Int) v <;> rfl

set_option maxRecDepth 100000 in
theorem down_calls (a : Option Addr) (cap : Nat) (ps : List Int) (w : World) (h : IntsAt w a ps) (hl : ps.length ≤ 16) (hr : ∀ x ∈ ps, 0 ≤ x ∧ x ≤ 16) (X : Nat) (hX : X ≤ 65535) :
    Calls Try.prog 76 #[.slice a ps.length cap, .int .i64 (X : Int)] w fun e w' => e = .returned (.int .i64 (dnN X ps : Int)) ∧ w = w' := by
  obtain ⟨N, hN⟩ : ∃ N, N = ps.length := ⟨_, rfl⟩
  rw [← hN] at hl ⊢
  have H := Lib.hid h
  have HN := Lib.hid hN
  have HR := Lib.hid hr
  clear h hN hr
  go_enter Try.func76, Try.ntmps76
  go_wp2
  go_loopg [5, 6] N (fun gk s5 s6 wr => ∃ d : Nat, s5 = .int .i64 (dnN X (ps.take d) : Int) ∧ s6 = .int .i64 (d : Int) ∧ d + gk = N ∧ w = wr)
  case atStart => exact ⟨0, by simp [dnN], rfl, by omega, rfl⟩
  case round =>
    obtain ⟨d, rfl, rfl, hd, rfl⟩ := hrel
    obtain ⟨y, hy⟩ : ∃ y, y = dnN X (ps.take d) := ⟨_, rfl⟩
    have hy16 : y < 65536 := by
      have h1 := dnN_lt X (ps.take d)
      have h2 : 2 ^ (ps.take d).length ≤ 2 ^ 16 := Nat.pow_le_pow_right (by decide) (by rw [List.length_take]; omega)
      have e16 : (2 : Nat) ^ 16 = 65536 := rfl
      omega
    rw [← hy]
    have HY := Lib.hid hy
    clear hy
    by_cases hlt : d < N
    · obtain ⟨x, hx⟩ : ∃ b, ps[d]? = some b := ⟨_, List.getElem?_eq_getElem (by rw [← HN.out]; exact hlt)⟩
      obtain ⟨b, off, rfl, c0⟩ := H.out d x hx
      have hxr := HR.out x (List.mem_of_getElem? hx)
      have htk := take_snoc hx
      have hv := fun (W : World) => value_calls (X : Int) x W (by omega) (by omega) hxr.1 hxr.2
      rw [bitI_vb] at hv
      have hvb := vb_le X x
      obtain ⟨u, hu⟩ : ∃ u, u = vb X x := ⟨_, rfl⟩
      rw [← hu] at hv hvb
      have HV := Lib.hid hv
      have hnext : Hid (dnN X (ps.take (d + 1)) = 2 * y + u) := Lib.hid (by rw [htk, dnN_snoc, ← HY.out, ← hu])
      clear hx htk hv hu hxr
      go_wp2_with (first | (go_at_call 94; refine (HV.out _).mono ?_; rintro e w1 ⟨rfl, rfl⟩) | fail)
      go_roundg (gk - 1)
      case rel => exact ⟨d + 1, by rw [hnext.out]; push_cast; rfl, by simp, by omega, rfl⟩
      case measure => omega
    · have hd2 : d = N := by omega
      have hres : Hid (dnN X ps = y) := Lib.hid (by rw [HY.out, List.take_of_length_le (by rw [← HN.out]; omega)])
      clear hd2
      go_wp2_with fail
      go_ret
      exact ⟨by rw [hres.out]; rfl, rfl⟩

set_option maxRecDepth 100000 in
set_option maxHeartbeats 2000000 in
theorem table18_calls {F : Nat → Prop} {w : World} {mb : Nat} {M : St} {L : List (Int × Rec)} (h : RefRep F w mb M L) (a : Option Addr) (cap : Nat) (ps : List Int) (hI : IntsAt w a ps) (hn : M.n = (ps.length : Int)) (hp : permB ps = true) (f : Int) (hf : 1 ≤ f ∧ f ≤ 5) (e : Edge) (he : e.ok) (hl : M.leads f e 0 = true) :
    Calls Try.prog 46 #[.pointer (some ⟨mb, 0, none⟩), .slice a ps.length cap, .int .u8 f, .agg #[.int .u8 e.tag, .int .u32 e.to]] w fun r w' => ∃ B, r = .returned (.slice (some ⟨B, 0, none⟩) (2 ^ ps.length) (2 ^ ps.length)) ∧ w.heap.size ≤ B ∧ BoolsAt w' B (tabP M ps f e) ∧ Keeps w w' := by
  obtain ⟨h16, hrng, -⟩ := permB_iff.1 hp
  have hT := fun (W : World) (hW : Keeps w W) => table_calls (h.keeps hW) f hf e he ps.length 0 (by rw [hn]; simp) hl
  have hDn := fun (X : Nat) (hX : X ≤ 65535) (W : World) (hW : Keeps w W) => down_calls a cap ps W (hI.keeps hW) h16 (fun x hx => by have := hrng x hx; omega) X hX
  have hat := fun (X : Nat) => tabE_dnN (M := M) (f := f) (e := e) hn X
  have hlt2 := fun (X : Nat) => dnN_lt X ps
  have hget : ∀ X, X < 2 ^ ps.length → (tabP M ps f e)[X]? = some (tv M f (upN X ps : Int) 0 e) := fun X hX => tabP_get hX
  have hlenP := tabP_len M ps f e
  have hlenE : (tabE M f e 0).length = 2 ^ ps.length := by rw [tabE_len]; congr 1; omega
  have hp2 : 2 ^ ps.length ≤ 2 ^ 16 := Nat.pow_le_pow_right (by decide) h16
  have e16 : (2 : Nat) ^ 16 = 65536 := rfl
  rw [e16] at hp2
  obtain ⟨tp, htp⟩ : ∃ tp, tp = tabP M ps f e := ⟨_, rfl⟩
  obtain ⟨te, hte⟩ : ∃ te, te = tabE M f e 0 := ⟨_, rfl⟩
  obtain ⟨p, hpp⟩ : ∃ p, p = 2 ^ ps.length := ⟨_, rfl⟩
  obtain ⟨n, hnn⟩ : ∃ n, n = ps.length := ⟨_, rfl⟩
  change ∀ W, Keeps w W → Calls Try.prog 75 #[.pointer (some ⟨mb, 0, none⟩), .int .u8 f, .agg #[.int .u8 e.tag, .int .u32 e.to], .int .i64 0] W fun r w' => ∃ B, r = .returned (.slice (some ⟨B, 0, none⟩) (2 ^ ps.length) (2 ^ ps.length)) ∧ W.heap.size ≤ B ∧ BoolsAt w' B (tabE M f e 0) ∧ Keeps W w' at hT
  rw [← hte, ← hpp] at hT
  rw [← htp] at hget hlenP ⊢
  rw [← hte] at hlenE
  simp only [← hte] at hat
  simp only [← hpp] at hlt2 hget hlenP hlenE hp2 ⊢
  simp only [← hnn] at hDn ⊢
  have HT := Lib.hid hT
  have HDN := Lib.hid hDn
  have HAT := Lib.hid hat
  have HLT := Lib.hid hlt2
  have HGET := Lib.hid hget
  have HLP := Lib.hid hlenP
  have HLE := Lib.hid hlenE
  obtain ⟨j0, hj, jz0, jz1, jz2⟩ := info_parts (show (Try.prog.info? 4).map (fun i => (i.zero, i.size, i.bytes)) = some (some (.bool false), 1, 1) by kernel_rfl)
  clear hT hDn hat hlt2 hget hlenP hlenE hI h hn hp hl he hrng htp hte hpp hnn e16 h16
  go_enter Try.func46, Try.ntmps46
  go_wp2_with fail
  refine (HT.out _ ((Keeps.refl _).alloc _)).mono ?_
  rintro r w1 ⟨B0, rfl, hB0, hT0, hk1⟩
  have hkw1 : Keeps w w1 := ((Keeps.refl _).alloc _).trans hk1
  have HT0 := Lib.hid hT0
  have lT0 := hT0.lt
  have HKW1 := Lib.hid hkw1
  clear hT0 hkw1 hk1 HT
  go_wp2_with (first
    | (at_make; refine wpList_make_full _ rfl _ _ 58 rfl w1.heap.size 4 j0 (.bool false) 1 Try.underlying58 hj jz0 jz1 .i64 .i64 (p : Int) (p : Int) p rfl rfl rfl rfl (by rw [jz2]; omega) (by unfold maxLen; omega) (by simp) ?_; intro w2 hown2 hg2)
    | fail)
  have HB1 := Lib.hid (bools_made hown2)
  have hk2 : Keeps w1 w2 := ⟨hg2.os, hg2.tape, hg2.output, hg2.size, fun i hi => hg2.block i hi (by simp)⟩
  have HK2 := Lib.hid (HKW1.out.trans hk2)
  have HT2 := Lib.hid (HT0.out.keep (Keeps.upd hk2 (fun _ => False)) (fun h => h))
  have lB1 := HB1.out.lt
  have sz1 := HKW1.out.size
  clear hown2 hg2 hk2 HT0 HKW1
  go_loopg [11] p (fun gk s11 wr => ∃ (y : Nat) (bs : List Bool), y + gk = p ∧ s11 = .int .i64 (y : Int) ∧ bs.length = p ∧ BoolsAt wr w1.heap.size bs ∧ (∀ i, i < y → bs[i]? = tp[i]?) ∧ Upd (fun j => j = w1.heap.size) w2 wr)
  case atStart => exact ⟨0, _, by omega, rfl, by simp, HB1.out, fun i hi => by omega, Upd.refl _ _⟩
  case round =>
    obtain ⟨y, bs, hy, rfl, hbl, hB, hag, hu⟩ := hrel
    have HB := Lib.hid hB
    have HBL := Lib.hid hbl
    have HAG := Lib.hid hag
    have HU := Lib.hid hu
    have HKR := Lib.hid (HK2.out.new hu (fun k hk => by omega))
    have HTR := Lib.hid (HT2.out.keep hu (fun hh => by omega))
    clear hB hbl hag hu
    by_cases hlt : y < p
    · have HDY := Lib.hid (HDN.out y (by omega) wr HKR.out)
      have hd2 := HLT.out y
      have hval := HAT.out y
      have hgp := HGET.out y hlt
      obtain ⟨D, hD⟩ : ∃ D, D = dnN y ps := ⟨_, rfl⟩
      obtain ⟨V, hV⟩ : ∃ V, V = tv M f (upN y ps : Int) 0 e := ⟨_, rfl⟩
      rw [← hD] at HDY hd2 hval
      rw [← hV] at hval hgp
      have c0 := HTR.out.cell hval
      obtain ⟨z, hz⟩ : ∃ z, bs[y]? = some z := ⟨_, List.getElem?_eq_getElem (by rw [HBL.out]; exact hlt)⟩
      have c1 := HB.out.cell hz
      have f1 := HB.out.frozen y
      have HGP := Lib.hid hgp
      have hDp : D < p := hd2
      clear hval hgp hz hD hV hd2
      go_wp2_with (first | (go_at_call 76; refine HDY.out.mono ?_; rintro e5 w5 ⟨rfl, rfl⟩) | fail)
      go_roundg (gk - 1)
      case rel =>
        refine ⟨y + 1, bs.set y V, by omega, by simp, by rw [List.length_set, HBL.out], HB.out.set y V, fun i hi => ?_, HU.out.setCell (.inl rfl) _⟩
        by_cases hiy : i = y
        · subst hiy
          rw [List.getElem?_set_self (by rw [HBL.out]; exact hlt), HGP.out]
        · rw [List.getElem?_set_ne (fun h => hiy h.symm)]
          exact HAG.out i (by omega)
      case measure => omega
    · have hbs : bs = tp := by
        apply List.ext_getElem?
        intro i
        by_cases hi : i < p
        · exact HAG.out i (by omega)
        · rw [List.getElem?_eq_none (by rw [HBL.out]; omega), List.getElem?_eq_none (by rw [HLP.out]; omega)]
      have hres : Hid (BoolsAt wr w1.heap.size tp) := Lib.hid (by rw [← hbs]; exact HB.out)
      clear hbs
      go_wp2_with fail
      go_ret
      exact ⟨w1.heap.size, rfl, by omega, hres.out, HKR.out⟩

end Go.Proofs.Ytoeoehbpahodnaa

namespace Go.Proofs.Ytoeoehbpahodnaa
set_option linter.unusedSimpArgs false
set_option linter.unusedVariables false
set_option maxHeartbeats 600000
open Go.RowKit

def enI (rs : List Rec) (i : Nat) : List (Int × Rec) := match rs with
  | [] => []
  | r :: rs => ((i : Int) + 2, r) :: enI rs (i + 1)

theorem enI_len (rs : List Rec) (i : Nat) : (enI rs i).length = rs.length := by
  induction rs generalizing i with
  | nil => rfl
  | cons r rs ih => simp [enI, ih]

theorem enI_get (rs : List Rec) (i j : Nat) : (enI rs i)[j]? = (rs[j]?).map (fun r => (((i + j : Nat) : Int) + 2, r)) := by
  induction rs generalizing i j with
  | nil => simp [enI]
  | cons r rs ih =>
    cases j with
    | zero => simp [enI]
    | succ j =>
      show (enI rs (i + 1))[j]? = _
      rw [ih, show i + 1 + j = i + (j + 1) from by omega]
      rfl

theorem enI_mem (rs : List Rec) (id : Int) (r : Rec) : (id, r) ∈ enI rs 0 ↔ ∃ j : Nat, rs[j]? = some r ∧ id = (j : Int) + 2 := by
  constructor
  · intro h
    obtain ⟨j, hj⟩ := List.mem_iff_getElem?.1 h
    rw [enI_get] at hj
    cases hr : rs[j]? with
    | none => rw [hr] at hj; cases hj
    | some x =>
      rw [hr] at hj
      have := Option.some.inj hj
      injection this with a b
      exact ⟨j, by rw [hr, ← b], by rw [← a]; simp⟩
  · rintro ⟨j, hj, rfl⟩
    refine List.mem_iff_getElem?.2 ⟨j, ?_⟩
    rw [enI_get, hj]
    simp

theorem enI_ids (rs : List Rec) (i : Nat) : ((enI rs i).map Prod.fst).Nodup ∧ ∀ x ∈ (enI rs i).map Prod.fst, (i : Int) + 2 ≤ x := by
  induction rs generalizing i with
  | nil => exact ⟨List.nodup_nil, fun x hx => by cases hx⟩
  | cons r rs ih =>
    obtain ⟨h1, h2⟩ := ih (i + 1)
    refine ⟨List.nodup_cons.2 ⟨fun hm => ?_, h1⟩, fun x hx => ?_⟩
    · have := h2 _ hm
      push_cast at this
      omega
    · rcases List.mem_cons.1 hx with rfl | hx
      · exact Int.le_refl _
      · have := h2 _ hx
        push_cast at this
        omega

theorem solid_list {M : St} (h : M.solid) : ∃ rs : List Rec, M.cs = rs.map some := by
  obtain ⟨_, h2⟩ := h
  generalize M.cs = cs at h2
  induction cs with
  | nil => exact ⟨[], rfl⟩
  | cons o cs ih =>
    obtain ⟨rs, e⟩ := ih (fun o ho => h2 o (List.mem_cons_of_mem _ ho))
    cases o with
    | none => exact absurd rfl (h2 none List.mem_cons_self)
    | some r => exact ⟨r :: rs, by rw [e]; rfl⟩

theorem look_map (rs : List Rec) (id : Int) (r : Rec) : look (rs.map some) id = some r ↔ ∃ j : Nat, rs[j]? = some r ∧ id = (j : Int) + 2 := by
  constructor
  · intro h
    obtain ⟨h1, h2, h3⟩ := look_some h
    refine ⟨(id - 2).toNat, ?_, by omega⟩
    rw [List.getElem?_map] at h3
    cases hr : rs[(id - 2).toNat]? with
    | none => rw [hr] at h3; cases h3
    | some x => rw [hr] at h3; rw [Option.some.inj (Option.some.inj h3)]
  · rintro ⟨j, hj, rfl⟩
    unfold look
    rw [if_neg (by omega), show ((j : Int) + 2 - 2).toNat = j from by omega, List.getElem?_map, hj]
    rfl

theorem info_nodeC : (Try.prog.info? 99).map (fun i => (i.zero, i.size, i.bytes)) = some (some (.agg #[.int .u32 0, .int .u8 0, .int .u8 0, .int .u8 0, .int .u8 0, .int .u32 0, .int .u8 0, .int .u32 0]), 8, 24) := by kernel_rfl

theorem owns_low {w : World} {base : Nat} {e : TypeId} {size : Nat} {v : Value} {n : Nat} {xs : List Value} (h : w.ownsRow base e size v n xs) {k : Nat} (hk : v.ownBlock = some k) : base ≤ k := by
  rcases h.2 with ⟨e0, _⟩ | ⟨g', cap', cur, e0, hbg, _⟩
  · rw [e0] at hk; simp [Value.ownBlock] at hk
  · rw [e0] at hk; simp [Value.ownBlock] at hk; omega

theorem owns_zero {w : World} {base : Nat} {e : TypeId} {size : Nat} {v : Value} {n : Nat} {xs : List Value} (h : w.ownsRow base e size v n xs) : w.ownsRow 0 e size v n xs := by
  obtain ⟨h1, h2⟩ := h
  rcases h2 with h2 | ⟨g', cap', cur, e0, hbg, r⟩
  · exact ⟨h1, .inl h2⟩
  · exact ⟨h1, .inr ⟨g', cap', cur, e0, Nat.zero_le _, r⟩⟩

theorem copy_step {w w2 w3 : World} {la : Option Addr} {d lcap g cap : Nat} {n room : Int} {xs xs' : List Value} (hk : Keeps w w2) (hlt : w.heap.size < w2.heap.size)
    (hh : w2.heap[w.heap.size]? = some (.cells #[.slice la d lcap, .slice none 0 0, .int .u32 (d : Int), .int .i64 n, .int .i64 room] 83 (0, 0)))
    (ho : w2.ownsRow w.heap.size 99 8 (.slice la d lcap) d xs)
    (hu : Upd (fun k => (Value.slice la d lcap).ownBlock = some k) w2 w3)
    (hw : w3.ownsRow w.heap.size 99 8 (.slice (some ⟨g, 0, none⟩) (d + 1) cap) (d + 1) xs') :
    ((w3.setCell ⟨w.heap.size, 0, none⟩ (.slice (some ⟨g, 0, none⟩) (d + 1) cap)).setCell ⟨w.heap.size, 2, none⟩ (.int .u32 ((d : Int) + 2 - 1))).heap[w.heap.size]? = some (.cells #[.slice (some ⟨g, 0, none⟩) (d + 1) cap, .slice none 0 0, .int .u32 ((d + 1 : Nat) : Int), .int .i64 n, .int .i64 room] 83 (0, 0))
    ∧ ((w3.setCell ⟨w.heap.size, 0, none⟩ (.slice (some ⟨g, 0, none⟩) (d + 1) cap)).setCell ⟨w.heap.size, 2, none⟩ (.int .u32 ((d : Int) + 2 - 1))).ownsRow w.heap.size 99 8 (.slice (some ⟨g, 0, none⟩) (d + 1) cap) (d + 1) xs'
    ∧ Keeps w ((w3.setCell ⟨w.heap.size, 0, none⟩ (.slice (some ⟨g, 0, none⟩) (d + 1) cap)).setCell ⟨w.heap.size, 2, none⟩ (.int .u32 ((d : Int) + 2 - 1))) := by
  have hne : (Value.slice la d lcap).ownBlock ≠ some w.heap.size := by
    intro e
    obtain ⟨cur, hcur⟩ := owns_type ho e
    exact ne_of_type hcur hh (by decide) rfl
  have h3 := (hu.block w.heap.size hlt hne).trans hh
  have hg : w.heap.size ≠ g := by
    intro e
    obtain ⟨cur, hcur⟩ := owns_type hw (k := g) rfl
    exact ne_of_type h3 hcur (by decide) e
  have s1 := heap_setCell_same w3 w.heap.size 0 _ _ (.slice (some ⟨g, 0, none⟩) (d + 1) cap) h3
  have s2 := heap_setCell_same _ w.heap.size 2 _ _ (.int .u32 ((d : Int) + 2 - 1)) s1
  have hu2 : Upd (fun k => k = w.heap.size) w3 ((w3.setCell ⟨w.heap.size, 0, none⟩ (.slice (some ⟨g, 0, none⟩) (d + 1) cap)).setCell ⟨w.heap.size, 2, none⟩ (.int .u32 ((d : Int) + 2 - 1))) :=
    Upd.setCell (F := fun k => k = w.heap.size) (p := ⟨w.heap.size, 2, none⟩) (Upd.setCell (F := fun k => k = w.heap.size) (p := ⟨w.heap.size, 0, none⟩) (Upd.refl _ w3) (Or.inl rfl) _) (Or.inl rfl) _
  refine ⟨?_, hu2.owns (fun k hk e => hg (by simp [Value.ownBlock] at hk; omega)) hw, ?_⟩
  · rw [s2]
    simp
    omega
  · have hk3 : Keeps w w3 := hk.new hu (fun k hk => owns_low ho hk)
    exact hk3.new hu2 (fun k e => by omega)

set_option maxRecDepth 100000 in
set_option maxHeartbeats 4000000 in
theorem copy_walk (sb : Nat) (n room : Int) (rs : List Rec) (w : World) (hl : rs.length ≤ 4000)
    (hvars : ∀ W, Keeps w W → Calls Try.prog 36 #[.pointer (some ⟨sb, 0, none⟩)] W fun e w' => e = .returned (.int .i64 n) ∧ W = w')
    (hroom : ∀ W, Keeps w W → Calls Try.prog 40 #[.pointer (some ⟨sb, 0, none⟩)] W fun e w' => e = .returned (.int .i64 room) ∧ W = w')
    (hlen : ∀ W, Keeps w W → Calls Try.prog 39 #[.pointer (some ⟨sb, 0, none⟩)] W fun e w' => e = .returned (.int .i64 (rs.length : Int)) ∧ Keeps W w')
    (hget : ∀ W, Keeps w W → ∀ (d : Nat) (r : Rec), rs[d]? = some r → Calls Try.prog 28 #[.pointer (some ⟨sb, 0, none⟩), .int .u32 ((d : Int) + 2)] W fun e w' => e = .returned (.tuple #[.agg #[.int .u8 r.form, .int .u8 r.top, .int .u8 r.bot, .int .u8 r.lo.tag, .int .u32 r.lo.to, .int .u8 r.hi.tag, .int .u32 r.hi.to], .bool true]) ∧ Keeps W w')
    : Calls Try.prog 43 #[.pointer (some ⟨sb, 0, none⟩)] w fun e w' => ∃ lv, e = .returned (.pointer (some ⟨w.heap.size, 0, none⟩)) ∧ w'.heap[w.heap.size]? = some (.cells #[lv, .slice none 0 0, .int .u32 (rs.length : Int), .int .i64 n, .int .i64 room] 83 (0, 0)) ∧ w'.ownsRow w.heap.size 99 8 lv rs.length ((enI rs 0).flatMap nodeVals) ∧ Keeps w w' := by
  obtain ⟨i0, hi, hz0, hz1, hz2⟩ := info_parts info_nodeC
  obtain ⟨N, hN⟩ : ∃ N, N = rs.length := ⟨_, rfl⟩
  rw [← hN] at hl hlen ⊢
  have HN := Lib.hid hN
  have HV := Lib.hid hvars
  have HR := Lib.hid hroom
  have HL := Lib.hid hlen
  have HG := Lib.hid hget
  clear hvars hroom hlen hget hN
  go_enter Try.func43, Try.ntmps43
  go_wp2_with (first | (go_at_call 36; refine (HV.out _ (by (exact kp))).mono ?_; rintro e w1 ⟨rfl, rfl⟩) | (go_at_call 40; refine (HR.out _ (by (exact kp))).mono ?_; rintro e w1 ⟨rfl, rfl⟩) | fail)
  go_loopg [4] N (fun gk s4 wr => ∃ (d : Nat) (lv : Value), s4 = .int .u32 ((d : Int) + 2) ∧ d + gk = N ∧ wr.heap[w.heap.size]? = some (.cells #[lv, .slice none 0 0, .int .u32 (d : Int), .int .i64 n, .int .i64 room] 83 (0, 0)) ∧ wr.ownsRow w.heap.size 99 8 lv d (((enI rs 0).take d).flatMap nodeVals) ∧ Keeps w wr)
  case atStart => exact ⟨0, .slice none 0 0, by simp, by omega, by simpa using heap_alloc_new w _, World.ownsRow_nil _ _ _ _, by (exact kp)⟩
  case round =>
    obtain ⟨d, lv, rfl, hd, hh, ho, hk⟩ := hrel
    obtain ⟨la, lcap, rfl, -⟩ := owns_slice ho
    have c0 : wr.cell? ⟨w.heap.size, 0, none⟩ = some (.slice la d lcap) := by rw [cell_of_row wr w.heap.size 0 _ _ _ hh]; rfl
    have hBw : w.heap.size < wr.heap.size := lt_of_cell c0
    have HH := Lib.hid hh
    have HO := Lib.hid ho
    have HLEN := Lib.hid (fun (W : World) (hW : Keeps wr W) => HL.out W (hk.trans hW))
    clear hh ho
    have c0k := KWorld.cell c0
    by_cases hlt : d < N
    · obtain ⟨r, hx⟩ : ∃ b, rs[d]? = some b := ⟨_, List.getElem?_eq_getElem (by rw [← HN.out]; exact hlt)⟩
      have HX := Lib.hid hx
      clear hx
      have hd1 : decide ((d : Int) < (N : Int)) = true := decide_eq_true (by omega)
      go_wp2_with fail
      refine wp_region_keeps (wr) (by kernel_rfl) (by kernel_rfl) (by (exact kp)) ?_; (repeat (go_big_quiet_step ((first | (go_at_call 39; with_reducible refine Calls.keepsK (HLEN.out _ (KWorld.keep _))))))); refine wpQuiet_nil ?_; rintro wq ⟨⟨_, hkq⟩, rfl⟩; try dsimp only
      have e0 := hkq.cell c0
      have HHq := Lib.hid (hkq.heap HH.out)
      have HOq := Lib.hid (Keeps.owns hkq HO.out)
      have hkk : Keeps w wq := hk.trans hkq
      have hBq : w.heap.size < wq.heap.size := lt_of_cell e0
      clear hkq c0 c0k hk hd1
      go_wp2_with (first | (go_at_call 28; refine (HG.out _ hkk d r HX.out).mono ?_; rintro e w2 ⟨rfl, hk2⟩; have f0 := hk2.cell e0; have HH2 := Lib.hid (hk2.heap HHq.out); have HO2 := Lib.hid (Keeps.owns hk2 HOq.out); have hkk2 := hkk.trans hk2; have hB2 : w.heap.size < w2.heap.size := lt_of_cell f0; have hB3 : w.heap.size < w2.heap.size + 1 := (by omega)) | fail)
      have hne : (Value.slice la d lcap).ownBlock ≠ some w.heap.size := by
        intro e
        obtain ⟨cur, hcur⟩ := owns_type HO2.out e
        exact ne_of_type hcur HH2.out (by decide) rfl
      have HNE := Lib.hid hne
      have f2 : w2.cell? ⟨w.heap.size, 2, none⟩ = some (.int .u32 (d : Int)) := by rw [cell_of_row w2 w.heap.size 2 _ _ _ HH2.out]; rfl
      have z0 := frozen_of_row w2 w.heap.size 0 _ _ HH2.out
      have z2 := frozen_of_row w2 w.heap.size 2 _ _ HH2.out
      clear hne e0
      have q1 : d + 1 ≤ maxLen := by unfold maxLen; omega
      have q2 : (d + 1) * 24 ≤ 140737488355328 := by omega
      go_wp2
      go_region_law (refine step_append_own rfl (.tmp 38) (.tmp 42) 80 rfl w.heap.size 99 i0 _ 8 24 Try.underlying80 hi hz0 hz1 hz2 rfl (by decide) (.slice la d lcap) d (((enI rs 0).take d).flatMap nodeVals) rfl ?_ _ 1 1 (nodeVals ((d : Int) + 2, r)) rfl rfl ?_ ?_ ?_ ?_ ?_ ?_; exact Keeps.owns (show Keeps w2 _ by (exact kp)) HO2.out; exact cell_newd _ _ _ _ (by simp); (intro u hu; simp [nodeVals, recVals] at hu; rcases hu with rfl | rfl | rfl | rfl | rfl | rfl | rfl | rfl <;> rfl); exact q1; exact q2; (simp; omega); intro v' w3 hown1 hgrow hfresh; (obtain ⟨g, cap, rfl⟩ := owns_shape hown1 (by omega)); have k0 := grown_cell (o := 0) (v := .slice la d lcap) hgrow HNE.out (by simp [go_sem, f0, hB2, hB3]); have k2 := grown_cell (o := 2) (v := .int .u32 (d : Int)) hgrow HNE.out (by simp [go_sem, f2, hB2, hB3]); have e9 := grown_frozen (o := 0) hgrow (by simp; omega) HNE.out (by simp [go_sem, z0, hB2, hB3]); have e8 := grown_frozen (o := 2) hgrow (by simp; omega) HNE.out (by simp [go_sem, z2, hB2, hB3]))
      all_goals go_wp2
      all_goals go_roundg (gk - 1)
      all_goals (try (show gk - 1 < gk; omega))
      all_goals have hs := copy_step hkk2 hB2 HH2.out HO2.out (Upd.grown (by repeat (first | exact Upd.refl _ _ | refine Upd.alloc ?_ _ | refine Upd.drew ?_)) hgrow (fun k hk => .inl hk)) hown1
      all_goals refine ⟨d + 1, _, congrArg (Value.int .u32) (by omega), by omega, hs.1, ?_, hs.2.2⟩
      all_goals rw [take_snoc (show (enI rs 0)[d]? = some ((d : Int) + 2, r) by rw [enI_get, HX.out]; simp), List.flatMap_append]
      all_goals simpa using hs.2.1
    · have hd1 : decide ((d : Int) < (N : Int)) = false := decide_eq_false (by omega)
      go_wp2_with fail
      refine wp_region_keeps (wr) (by kernel_rfl) (by kernel_rfl) (by (exact kp)) ?_; (repeat (go_big_quiet_step ((first | (go_at_call 39; with_reducible refine Calls.keepsK (HLEN.out _ (KWorld.keep _))))))); refine wpQuiet_nil ?_; rintro wq ⟨⟨_, hkq⟩, rfl⟩; try dsimp only
      have HHq := Lib.hid (hkq.heap HH.out)
      have HOq := Lib.hid (Keeps.owns hkq HO.out)
      have hkk : Keeps w wq := hk.trans hkq
      have hd2 : d = N := by omega
      subst hd2
      clear hd1
      go_wp2_with fail
      refine bodyPost_ret (v := .pointer (some ⟨w.heap.size, 0, none⟩)) (by simp [results, Try.results43, go_sem]) rfl ⟨_, rfl, HHq.out, ?_, hkk⟩
      have := HOq.out
      rwa [List.take_of_length_le (by rw [enI_len, ← HN.out]; exact Nat.le_refl _)] at this

theorem copy_calls {F : Nat → Prop} {w : World} {sb : Nat} {M : St} (h : StoreRep F w sb M) (hs : M.solid) (hl : M.len ≤ 4000) :
    Calls Try.prog 43 #[.pointer (some ⟨sb, 0, none⟩)] w fun e w' => ∃ L G, e = .returned (.pointer (some ⟨w.heap.size, 0, none⟩)) ∧ Keeps w w' ∧ RefRep G w' w.heap.size M L ∧ ∀ k, G k → w.heap.size ≤ k := by
  obtain ⟨rs, hrs⟩ := solid_list hs
  have hg : M.gone = [] := hs.1
  have hlen : M.len = (rs.length : Int) := by unfold St.len; rw [hrs, hg]; simp
  refine (copy_walk sb M.n M.room rs w (by omega) (fun W hW => store_vars (h.keeps hW)) (fun W hW => store_room (h.keeps hW)) (fun W hW => ?_) (fun W hW d r hd => ?_)).mono ?_
  · have := store_len (h.keeps hW)
    rw [hlen] at this
    exact this.mono fun e w' ⟨he, hw⟩ => ⟨he, hw ▸ Keeps.refl _⟩
  · have hlk : look M.cs ((d : Int) + 2) = some r := by rw [hrs]; exact (look_map rs _ r).2 ⟨d, hd, rfl⟩
    have hdl := (List.getElem?_eq_some_iff.1 hd).1
    have := store_get (h.keeps hW) ((d : Int) + 2) (by omega)
    rw [hlk] at this
    exact this
  · rintro e w' ⟨lv, rfl, hh, ho, hk⟩
    have hlt : w.heap.size < w'.heap.size := lt_of_heap hh
    have hcs : M.cs.length = rs.length := by rw [hrs]; simp
    refine ⟨enI rs 0, fun k => w.heap.size ≤ k ∧ k < w'.heap.size, rfl, hk, ⟨⟨lv, .slice none 0 0, by rw [hcs]; exact hh, ?_, ?_, ?_, ?_⟩, ⟨Nat.le_refl _, hlt⟩, fun k hk => hk.2, h.wf, ?_, (enI_ids rs 0).1, ?_, ?_, ?_⟩, fun k hk => hk.1⟩
    · rw [enI_len]
      exact owns_zero ho
    · rw [hg]; exact World.ownsRow_nil _ _ _ _
    · intro k hk
      obtain ⟨cur, hcur⟩ := owns_type ho hk
      exact ⟨owns_low ho hk, lt_of_heap hcur⟩
    · intro k hk; simp [Value.ownBlock] at hk
    · intro id r; rw [enI_mem, hrs, look_map]
    · rw [enI_len]; omega
    · rw [hcs]; omega
    · rintro ⟨id, r⟩ hp
      obtain ⟨j, hj, rfl⟩ := (enI_mem rs id r).1 hp
      exact h.fit (id := (j : Int) + 2) (by rw [hrs]; exact (look_map rs _ r).2 ⟨j, hj, rfl⟩)

end Go.Proofs.Ytoeoehbpahodnaa

namespace Go.Proofs.Ytoeoehbpahodnaa
set_option linter.unusedSimpArgs false
set_option linter.unusedVariables false
set_option maxHeartbeats 600000
open Go.RowKit

set_option maxRecDepth 100000 in
set_option maxHeartbeats 2000000 in
theorem rmay26_calls {F : Nat → Prop} {w : World} {mb : Nat} {M : St} {L : List (Int × Rec)} (h : RefRep F w mb M L) (a1 a2 : Option Addr) (cap1 cap2 : Nat) (rs : List (Int × Edge)) (hF : IsForms w a1 (rs.map Prod.fst)) (hE : EdgesAt w a2 (rs.map Prod.snd)) (hl : rs.length ≤ 1048576) :
    Calls Try.prog 15 #[.pointer (some ⟨mb, 0, none⟩), .slice a1 rs.length cap1, .slice a2 rs.length cap2] w fun e w' => e = .returned (.int .i64 (mayL M rs)) ∧ Keeps w w' := by
  have HM := Lib.hid (fun (f : Int) (v : Edge) (hv : v.ok) (W : World) (hW : Keeps w W) => rmay_calls (h.keeps hW) f v 0 hv)
  obtain ⟨N, hN⟩ : ∃ N, N = rs.length := ⟨_, rfl⟩
  rw [← hN] at hl ⊢
  have HF := Lib.hid hF
  have HE := Lib.hid hE
  have HN := Lib.hid hN
  clear h hF hE hN
  go_enter Try.func15, Try.ntmps15
  go_wp2
  go_loopg [7] N (fun gk s7 wr => ∃ d : Nat, s7 = .int .i64 (d : Int) ∧ d + gk = N ∧ mayL M (rs.drop d) = mayL M rs ∧ Keeps w wr)
  case atStart => exact ⟨0, rfl, by omega, rfl, by (exact kp)⟩
  case round =>
    obtain ⟨d, rfl, hd, hm, hk⟩ := hrel
    have HMM := Lib.hid hm
    clear hm
    by_cases hlt : d < N
    · obtain ⟨r, hx⟩ : ∃ b, rs[d]? = some b := ⟨_, List.getElem?_eq_getElem (by rw [← HN.out]; exact hlt)⟩
      obtain ⟨f, e⟩ := r
      obtain ⟨b1, o1, rfl, c0⟩ := HF.out d f (by rw [List.getElem?_map, hx]; rfl)
      obtain ⟨hok, b2, o2, rfl, c1, c2⟩ := HE.out d e (by rw [List.getElem?_map, hx]; rfl)
      replace c0 := hk.cell c0
      replace c1 := hk.cell c1
      replace c2 := hk.cell c2
      have hdr : rs.drop d = (f, e) :: rs.drop (d + 1) := by
        obtain ⟨hi, he⟩ := List.getElem?_eq_some_iff.1 hx
        rw [List.drop_eq_getElem_cons hi, he]
      have hm := HMM.out
      rw [hdr, mayL_cons] at hm
      dsimp only at hm
      have hmy := fun (W : World) (hW : Keeps wr W) => HM.out f e hok W (hk.trans hW)
      have hrg := mayC_range M f e 0
      obtain ⟨c, hc⟩ : ∃ c, c = mayC M f e 0 := ⟨_, rfl⟩
      rw [← hc] at hmy hm hrg
      have HMs := Lib.hid hmy
      have ck0 := KWorld.cell c0
      have ck1 := KWorld.cell c1
      have ck2 := KWorld.cell c2
      have i0 : (0 : Int) ≤ (d : Int) := by omega
      have i1 : (d : Int) < (N : Int) := by omega
      clear hx hdr hmy hc hok
      by_cases hc0 : c = 0
      · subst hc0
        have hres : Hid (mayL M (rs.drop (d + 1)) = mayL M rs) := Lib.hid (by rw [← hm]; simp)
        clear hm
        go_wp2_with fail
        refine wp_region_keeps (wr) (by kernel_rfl) (by kernel_rfl) (by (exact kp)) ?_; (repeat (go_big_quiet_step ((first | (go_at_call 38; with_reducible refine Calls.keepsK (HMs.out _ (KWorld.keep _))))))); refine wpQuiet_nil ?_; rintro wq ⟨⟨_, hkq⟩, rfl⟩; try dsimp only
        clear ck0 ck1 ck2
        go_wp2_with fail
        go_roundg (gk - 1)
        case rel => exact ⟨d + 1, by simp, by omega, hres.out, hk.trans hkq⟩
        case measure => omega
      · have hres : Hid (mayL M rs = c) := Lib.hid (by rw [← hm, if_neg hc0])
        have g0 : (c != 0) = true := by simp [hc0]
        clear hm
        go_wp2_with fail
        refine wp_region_keeps (wr) (by kernel_rfl) (by kernel_rfl) (by (exact kp)) ?_; (repeat (go_big_quiet_step ((first | (go_at_call 38; with_reducible refine Calls.keepsK (HMs.out _ (KWorld.keep _))))))); refine wpQuiet_nil ?_; rintro wq ⟨⟨_, hkq⟩, rfl⟩; try dsimp only
        clear ck0 ck1 ck2
        go_wp2_with fail
        go_ret
        exact ⟨by rw [hres.out]; rfl, hk.trans hkq⟩
    · have hres : Hid (mayL M rs = 0) := Lib.hid (by rw [← HMM.out, List.drop_of_length_le (by rw [← HN.out]; omega)]; rfl)
      clear HMM
      go_wp2_with fail
      go_ret
      exact ⟨by rw [hres.out]; rfl, hk⟩

def moveL (a b : Nat) : List Nat := if a < b then (List.range (b - a)).map (fun i => a + i) else (List.range (a - b)).map (fun i => a - 1 - i)

end Go.Proofs.Ytoeoehbpahodnaa
