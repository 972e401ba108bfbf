/-
  Proved: the statement CanonCubes, for every input.
-/
import Derived.Test.YtiacdpoldgfpbaaGreatPCubeNxF
import Derived.Test.YtiacdpoldgfpbaaGreatPIsW
import Derived.Test.YtiacdpoldgfpbaaGreatPKAlivexF
import Derived.Test.YtiacdpoldgfpbaaGreatRows
namespace Go.Proofs.YtiacdpoldgfpbaaGreat
set_option linter.unusedSimpArgs false
set_option linter.unusedVariables false
set_option maxHeartbeats 600000
open Go.ChangeShapes Go.WideShapes Go.ChangeAt Go.RowKit

set_option maxRecDepth 100000 in
theorem canonCubes_out (n room f l o z : Int) (w : World) (h : n < 0 ∨ 7 < n ∨ room < 0 ∨ 100 < room) :
    Calls Tryz.prog 3 #[.int .i64 n, .int .i64 room, .int .u8 f, .int .i64 l, .int .u16 o, .int .u16 z] w fun e w' => e = .returned (.bool true) ∧ Keeps w w' := by
  have H := Lib.hid h
  clear h
  go_enter Tryz.func3, Tryz.ntmps3
  go_wp2_with (first | (go_at_call 8; refine (k_alive _).mono ?_; rintro e w1 ⟨rfl, hk⟩) | fail)
  all_goals first | (go_ret; exact ⟨rfl, by (exact kp)⟩) | (exfalso; have := H.out; omega)

structure CubeOut (F : Nat → Prop) (w : World) (sb : Nat) (n room f l o z : Int) (x : Edge) (er : Int) (M' : St) (F' : Nat → Prop) (w' : World) : Prop where
  upd : Upd F w w'
  rep : StoreRep F' w' sb M'
  sub : ∀ j, F' j → F j ∨ w.heap.size ≤ j
  out : (isFormB f = false ∧ er = 4 ∧ x = ⟨0, 0⟩ ∧ M'.len = 0) ∨
    (isFormB f = true ∧ (l < 0 ∨ n < l ∨ strangeB (bits BinOp.or IntKind.u16 o z) l n = true) ∧ er = 3 ∧ x = ⟨0, 0⟩ ∧ M'.len = 0) ∨
    (isFormB f = true ∧ 0 ≤ l ∧ l ≤ n ∧ strangeB (bits BinOp.or IntKind.u16 o z) l n = false ∧ (bits BinOp.and IntKind.u16 o z != 0) = true ∧ er = 1 ∧ x = ⟨0, 0⟩ ∧ M'.len = 0) ∨
    (isFormB f = true ∧ 0 ≤ l ∧ l ≤ n ∧ strangeB (bits BinOp.or IntKind.u16 o z) l n = false ∧ (bits BinOp.and IntKind.u16 o z != 0) = false ∧ M'.n = n ∧ x.ok ∧
      ((er = 0 ∧ IsT f M' (n - l).toNat (cubeT o z (n - l).toNat l) l x ∧ rightK M' f x l) ∨ (er = 6 ∧ x = ⟨0, 0⟩ ∧ M'.len = room ∧ room < n)))

theorem bits_u16_range (op : BinOp) (a b : Int) : 0 ≤ bits op IntKind.u16 a b ∧ bits op IntKind.u16 a b ≤ 65535 := by
  unfold bits
  simp only [IntKind.wrap_u16]
  omega

theorem cubeOut_calls {F : Nat → Prop} {w : World} {sb : Nat} {n room : Int} (h : StoreRep F w sb (St.new n room)) (n0 : 0 ≤ n) (n7 : n ≤ 7) (r0 : 0 ≤ room) (r1 : room ≤ 100) (f l o z : Int) (o0 : 0 ≤ o) (o1 : o ≤ 65535) (z0 : 0 ≤ z) (z1 : z ≤ 65535) :
    Calls Tryz.prog 10 #[.pointer (some ⟨sb, 0, none⟩), .int .u8 f, .int .i64 l, .int .u16 o, .int .u16 z] w fun e w' => ∃ x er M' F', e = .returned (.tuple #[.agg #[.int .u8 x.tag, .int .u32 x.to], .int .u8 er]) ∧ x.ok ∧ 0 ≤ er ∧ er ≤ 6 ∧ CubeOut F w sb n room f l o z x er M' F' w' := by
  have hl0 : (St.new n room).len = 0 := by simp [St.new, St.len]
  have hkp : ∀ (w' : World), Keeps w w' → StoreRep F w' sb (St.new n room) := fun w' hk => h.keeps hk
  obtain ⟨u0, u1⟩ := bits_u16_range BinOp.or o z
  obtain ⟨U, hU⟩ : ∃ U : Nat, bits BinOp.or IntKind.u16 o z = (U : Int) := ⟨(bits BinOp.or IntKind.u16 o z).toNat, by omega⟩
  obtain ⟨N, rfl⟩ : ∃ N : Nat, n = (N : Int) := ⟨n.toNat, by omega⟩
  rcases bool_cases (isFormB f) with hf | hf
  · refine (cube_shape sb f l o z w hf).mono ?_
    rintro e w' ⟨rfl, hk⟩
    exact ⟨_, 4, _, F, rfl, edge0_ok, by decide, by decide, Keeps.upd hk F, hkp w' hk, fun j hj => .inl hj, .inl ⟨hf, rfl, rfl, hl0⟩⟩
  · have hf15 : 1 ≤ f ∧ f ≤ 5 := by unfold isFormB at hf; simpa using hf
    have hvar : (l < 0 ∨ (N : Int) < l ∨ strangeB (bits BinOp.or IntKind.u16 o z) l (N : Int) = true) → (l < 0 ∨ (St.new (N : Int) room).n < l ∨ (0 ≤ l ∧ l ≤ (St.new (N : Int) room).n ∧ (¬ (bits BinOp.or IntKind.u16 o z % 4294967296 / 2 ^ (St.new (N : Int) room).n.toNat = 0) ∨ ((bits BinOp.or IntKind.u16 o z % 4294967296 / 2 ^ (St.new (N : Int) room).n.toNat = 0) ∧ (bits BinOp.and IntKind.u32 (bits BinOp.or IntKind.u16 o z % 4294967296) ((2 ^ l.toNat - 1) % 4294967296) != 0) = true)))) := by
      intro hc
      by_cases c1 : l < 0
      · exact .inl c1
      by_cases c2 : (N : Int) < l
      · exact .inr (.inl c2)
      have c3 : strangeB (bits BinOp.or IntKind.u16 o z) l (N : Int) = true := by
        rcases hc with hc | hc | hc
        · exact absurd hc c1
        · exact absurd hc c2
        · exact hc
      obtain ⟨L, rfl⟩ : ∃ L : Nat, l = (L : Int) := ⟨l.toNat, by omega⟩
      refine .inr (.inr ⟨by omega, by show (L : Int) ≤ (N : Int); omega, ?_⟩)
      rw [hU] at c3 ⊢
      show ¬ ((U : Int) % 4294967296 / 2 ^ (N : Int).toNat = 0) ∨ _
      rw [Int.toNat_natCast, Int.toNat_natCast, and_low_u32 U L (by omega) (by omega)]
      rcases (strange_iff U L N (by omega) (by omega) (by omega)).1 c3 with hh | hh
      · exact .inl hh
      · by_cases hz : (U : Int) % 4294967296 / 2 ^ N = 0
        · refine .inr ⟨hz, ?_⟩
          simp only [bne_iff_ne, ne_eq]
          intro h0
          exact hh (by exact_mod_cast h0)
        · exact .inl hz
    by_cases hs : l < 0 ∨ (N : Int) < l ∨ strangeB (bits BinOp.or IntKind.u16 o z) l (N : Int) = true
    · refine (cube_var h f l o z hf o0 o1 z0 z1 (hvar hs)).mono ?_
      rintro e w' ⟨rfl, hk⟩
      exact ⟨_, 3, _, F, rfl, edge0_ok, by decide, by decide, Keeps.upd hk F, hkp w' hk, fun j hj => .inl hj, .inr (.inl ⟨hf, hs, rfl, rfl, hl0⟩)⟩
    · have l0 : 0 ≤ l := by omega
      have l1 : l ≤ (N : Int) := by omega
      have hsb : strangeB (bits BinOp.or IntKind.u16 o z) l (N : Int) = false := by
        cases hb : strangeB (bits BinOp.or IntKind.u16 o z) l (N : Int) with
        | false => rfl
        | true => exact absurd (.inr (.inr hb)) hs
      have hg : bits BinOp.or IntKind.u16 o z % 4294967296 / 2 ^ (St.new (N : Int) room).n.toNat = 0 ∧ (bits BinOp.and IntKind.u32 (bits BinOp.or IntKind.u16 o z % 4294967296) ((2 ^ l.toNat - 1) % 4294967296) != 0) = false := by
        obtain ⟨L, rfl⟩ : ∃ L : Nat, l = (L : Int) := ⟨l.toNat, by omega⟩
        rw [hU] at hsb ⊢
        show ((U : Int) % 4294967296 / 2 ^ (N : Int).toNat = 0) ∧ _
        rw [Int.toNat_natCast, Int.toNat_natCast, and_low_u32 U L (by omega) (by omega)]
        have hno : ¬ (¬ ((U : Int) % 4294967296 / 2 ^ N = 0) ∨ ¬ (U % 2 ^ L = 0)) := fun hh => by
          rw [(strange_iff U L N (by omega) (by omega) (by omega)).2 hh] at hsb
          cases hsb
        refine ⟨Classical.byContradiction fun hh => hno (.inl hh), ?_⟩
        have : U % 2 ^ L = 0 := Classical.byContradiction fun hh => hno (.inr hh)
        rw [this]
        rfl
      rcases bool_cases (bits BinOp.and IntKind.u16 o z != 0) with g3 | g3
      · have hw := h.wf
        refine (cube_calls h f l o z l0 l1 hf o0 o1 z0 z1 hg.1 hg.2 g3).mono ?_
        rintro e w' ⟨rfl, hu, hS⟩
        have hn : (St.new (N : Int) room).n = (N : Int) := rfl
        obtain ⟨i1, i2⟩ := one_isT hw hf15 o z
        obtain ⟨K, hK⟩ : ∃ K : Nat, (N : Int) = l + (K : Int) := ⟨((N : Int) - l).toNat, by omega⟩
        have hKK : ((N : Int) - l).toNat = K := by omega
        have hp := cube_plain hf15 l0 o0 o1 z0 z1 K 0 (St.new (N : Int) room) (oneE f (St.new (N : Int) room).n) hw (by show room < 1048576; omega) (by rw [hn]; omega) (by rw [hn, ← hK]; rw [hn] at i1; exact i1) (by rw [hn, ← hK]; rw [hn] at i2; exact i2)
        rw [hn, hKK] at hS ⊢
        rw [hn] at hp
        obtain ⟨R, hR⟩ : ∃ R, R = cubeGo f l o z K (St.new (N : Int) room) (oneE f (N : Int)) := ⟨_, rfl⟩
        rw [← hR] at hp hS ⊢
        obtain ⟨p1, p2, p3, p4⟩ := hp
        have hsub : ∀ j, Grow F w w' j → F j ∨ w.heap.size ≤ j := fun j hj => by
          rcases hj with hj | hj
          · exact .inl hj
          · exact .inr hj.1
        have hRn : R.2.2.n = (N : Int) := p1.n
        rcases p4 with ⟨a, b, c⟩ | ⟨a, b, c, d⟩
        · have hx : R.1.ok := IsT.fits p2 hS.few hf15 _ _ _ _ b (by rw [hRn]; push_cast; omega) l0
          rw [Nat.zero_add] at b
          exact ⟨R.1, R.2.1, R.2.2, _, rfl, hx, by omega, by omega, hu, hS, hsub, .inr (.inr (.inr ⟨hf, l0, l1, hsb, g3, hRn, hx, .inl ⟨a, by rw [hKK]; exact b, c⟩⟩))⟩
        · have hx : R.1.ok := by rw [b]; exact edge0_ok
          have hfull := p2.full
          have hroom : R.2.2.room = room := p3
          rw [hl0] at d
          have c' : room ≤ R.2.2.len := c
          exact ⟨R.1, R.2.1, R.2.2, _, rfl, hx, by omega, by omega, hu, hS, hsub, .inr (.inr (.inr ⟨hf, l0, l1, hsb, g3, hRn, hx, .inr ⟨a, b, by omega, by omega⟩⟩))⟩
      · refine (cube_arg h f l o z hf l0 l1 hg.1 hg.2 g3).mono ?_
        rintro e w' ⟨rfl, hk⟩
        exact ⟨_, 1, _, F, rfl, edge0_ok, by decide, by decide, Keeps.upd hk F, hkp w' hk, fun j hj => .inl hj, .inr (.inr (.inl ⟨hf, l0, l1, hsb, g3, rfl, rfl, hl0⟩))⟩

def strangeN (U l n : Int) (j : Nat) : Bool := (List.range j).any (fun k => bitB U (k : Int) && (decide ((k : Int) < l) || decide (n ≤ (k : Int))))

theorem strangeN_succ (U l n : Int) (j : Nat) : strangeN U l n (j + 1) = (strangeN U l n j || (bitB U (j : Int) && (decide ((j : Int) < l) || decide (n ≤ (j : Int))))) := by
  unfold strangeN
  rw [List.range_succ, List.any_append]
  simp

set_option maxRecDepth 100000 in
set_option maxHeartbeats 16000000 in
theorem canonCubes_in (n room f l o z : Int) (w : World) (n0 : 0 ≤ n) (n7 : n ≤ 7) (r0 : 0 ≤ room) (r1 : room ≤ 100) (o0 : 0 ≤ o) (o1 : o ≤ 65535) (z0 : 0 ≤ z) (z1 : z ≤ 65535) :
    Calls Tryz.prog 3 #[.int .i64 n, .int .i64 room, .int .u8 f, .int .i64 l, .int .u16 o, .int .u16 z] w fun e w' => e = .returned (.bool true) ∧ Keeps w w' := by
  go_enter Tryz.func3, Tryz.ntmps3
  go_wp2_with (first | (go_at_call 8; refine (k_alive _).mono ?_; rintro e w1 ⟨rfl, hk⟩) | fail)
  refine (store_new n room _ (by omega) (by omega) (by omega) (by omega)).mono ?_
  rintro e w2 ⟨sb, F, rfl, hk2, hF, hS⟩
  have HK2 := Lib.hid (hk.trans hk2)
  have z1' := hk.size
  have HF := Lib.hid (fun j (hj : F j) => Nat.le_trans z1' (hF j hj))
  have HS := Lib.hid hS
  have HCB := Lib.hid (fun (W : World) (hW : Keeps w2 W) => cubeOut_calls (hS.keeps hW) n0 n7 r0 r1 f l o z o0 o1 z0 z1)
  clear hk2 hk hF hS z1'
  go_wp2_with fail
  refine (HCB.out _ (Keeps.refl _)).mono ?_
  rintro e w3 ⟨x, er, M', F', rfl, hx, e0, e6, hC⟩
  have HC := Lib.hid hC
  have HX := Lib.hid hx
  have hkw : Keeps w w3 := HK2.out.new hC.upd (fun j hj => HF.out j hj)
  have HKW := Lib.hid hkw
  clear hC hx hkw
  obtain ⟨u0, u1⟩ := bits_u16_range BinOp.or o z
  obtain ⟨U, hU⟩ : ∃ U, U = bits BinOp.or IntKind.u16 o z := ⟨_, rfl⟩
  obtain ⟨A, hA⟩ : ∃ A, A = bits BinOp.and IntKind.u16 o z := ⟨_, rfl⟩
  rw [← hU] at u0 u1
  have hUr : ∀ W, (binOp BinOp.or 22 (.int .u16 o) (.int .u16 z)).run Tryz.prog W = .ok (.int .u16 U) W := fun W => by rw [hU]; rfl
  have HUU := Lib.hid hU
  have HAA := Lib.hid hA
  clear hU hA
  have hIS := fun (W : World) => ris_calls f W
  have hLEN := fun (W : World) (hW : Keeps w3 W) => store_len (HC.out.rep.keeps hW)
  have x0' : (w3.alloc (.cells #[.int .u8 x.tag, .int .u32 x.to] 31)).cell? ⟨w3.heap.size, 0, none⟩ = some (.int .u8 x.tag) := by simp [go_sem]
  have x1' : (w3.alloc (.cells #[.int .u8 x.tag, .int .u32 x.to] 31)).cell? ⟨w3.heap.size, 1, none⟩ = some (.int .u32 x.to) := by simp [go_sem]
  have hk4 : Keeps w3 (w3.alloc (.cells #[.int .u8 x.tag, .int .u32 x.to] 31)) := (Keeps.refl _).alloc _
  by_cases hb0 : l < 0 ∨ n < l
  · have hcase : (isFormB f = false ∧ er = 4 ∧ x = ⟨0, 0⟩ ∧ M'.len = 0) ∨ (isFormB f = true ∧ er = 3 ∧ x = ⟨0, 0⟩ ∧ M'.len = 0) := by
      rcases HC.out.out with ⟨a, b, c, d⟩ | ⟨a, _, b, c, d⟩ | ⟨a, b, c, _⟩ | ⟨a, b, c, _⟩
      · exact .inl ⟨a, b, c, d⟩
      · exact .inr ⟨a, b, c, d⟩
      · omega
      · omega
    have HB0 := Lib.hid hb0
    rcases hb0 with hb0 | hb0
    all_goals
      first | (have hl0 : ¬ l < 0 := (by omega)) | skip
      go_wp2_with fail
      obtain ⟨W4, hW4⟩ : ∃ W, W = w3.alloc (.cells #[.int .u8 x.tag, .int .u32 x.to] 31) := ⟨_, rfl⟩
      rw [← hW4] at x0' x1' hk4 ⊢
      clear hW4
      go_loopg [19, 20] 16 (fun gk s19 s20 wr => ∃ j : Nat, j + gk = 16 ∧ s20 = .int .i64 (j : Int) ∧ s19 = .bool true ∧ W4 = wr)
      case atStart => exact ⟨0, by omega, rfl, rfl, rfl⟩
      case round =>
        obtain ⟨j, hj, rfl, rfl, rfl⟩ := hrel
        by_cases hj16 : j < 16
        · go_wp2_with fail
          go_roundg (gk - 1)
          case rel => exact ⟨j + 1, by omega, by simp, rfl, rfl⟩
          case measure => omega
        · have hj2 : ¬ (j : Int) < 16 := by omega
          rcases hcase with ⟨c1, c2, c3, c4⟩ | ⟨c1, c2, c3, c4⟩
          all_goals
            rw [c1] at hIS
            rw [c4] at hLEN
            have HIS := Lib.hid hIS
            have HLEN := Lib.hid hLEN
            subst c2 c3
            clear c1 c4 hIS hLEN
            go_wp2_with (first
              | (go_at_call 12; refine (HIS.out _).mono ?_; rintro e w5 ⟨rfl, rfl⟩)
              | (go_at_call 13; refine (HLEN.out _ hk4).mono ?_; rintro e w5 ⟨rfl, rfl⟩)
              | fail)
            go_ret
            exact ⟨rfl, HKW.out.trans hk4⟩
  · have hl0 : ¬ l < 0 := by omega
    have hln : ¬ n < l := by omega
    have hbU : wrap64 (bits BinOp.or IntKind.u16 o z) = U := by rw [← HUU.out]; exact IntWalk.wrap64_in _ ⟨by omega, by omega⟩
    have HVL := Lib.hid (fun (j : Nat) (hj : j < 16) (W : World) => value_calls U (j : Int) W u0 u1 (by omega) (by omega))
    go_wp2_with fail
    obtain ⟨W4, hW4⟩ : ∃ W, W = w3.alloc (.cells #[.int .u8 x.tag, .int .u32 x.to] 31) := ⟨_, rfl⟩
    rw [← hW4] at x0' x1' hk4 ⊢
    clear hW4
    go_loopg [19, 20] 16 (fun gk s19 s20 wr => ∃ j : Nat, j + gk = 16 ∧ s20 = .int .i64 (j : Int) ∧ s19 = .bool (strangeN U l n j) ∧ W4 = wr)
    case atStart => exact ⟨0, by omega, rfl, by unfold strangeN; rw [decide_eq_false (show ¬ l < 0 by omega), decide_eq_false (show ¬ n < l by omega)]; rfl, rfl⟩
    case round =>
      obtain ⟨j, hj, rfl, rfl, rfl⟩ := hrel
      by_cases hj16 : j < 16
      · have hsn := strangeN_succ U l n j
        obtain ⟨S, hS⟩ : ∃ S, S = strangeN U l n j := ⟨_, rfl⟩
        rw [← hS] at hsn ⊢
        have HSN := Lib.hid hsn
        have hvj := HVL.out j hj16
        obtain ⟨bb, hbb⟩ : ∃ bb, bb = bitB U (j : Int) := ⟨_, rfl⟩
        rw [← hbb] at hvj hsn
        have HVJ := Lib.hid hvj
        have HSN := Lib.hid hsn
        clear hsn hvj hbb hS
        cases S
        · cases bb
          · go_wp2_with (first | (go_at_call 11; with_reducible refine (HVJ.out _).mono ?_; rintro e w5 ⟨rfl, rfl⟩) | fail)
            go_roundg (gk - 1)
            case rel => exact ⟨j + 1, by omega, by simp, by rw [HSN.out]; rfl, rfl⟩
            case measure => omega
          · by_cases c1 : (j : Int) < l
            · go_wp2_with (first | (go_at_call 11; with_reducible refine (HVJ.out _).mono ?_; rintro e w5 ⟨rfl, rfl⟩) | fail)
              go_roundg (gk - 1)
              case rel => exact ⟨j + 1, by omega, by simp, by rw [HSN.out, decide_eq_true (show (j : Int) < l by omega)]; rfl, rfl⟩
              case measure => omega
            · by_cases c2 : n ≤ (j : Int)
              · go_wp2_with (first | (go_at_call 11; with_reducible refine (HVJ.out _).mono ?_; rintro e w5 ⟨rfl, rfl⟩) | fail)
                go_roundg (gk - 1)
                case rel => exact ⟨j + 1, by omega, by simp, by rw [HSN.out, decide_eq_false (show ¬ (j : Int) < l by omega), decide_eq_true (show n ≤ (j : Int) by omega)]; rfl, rfl⟩
                case measure => omega
              · go_wp2_with (first | (go_at_call 11; with_reducible refine (HVJ.out _).mono ?_; rintro e w5 ⟨rfl, rfl⟩) | fail)
                go_roundg (gk - 1)
                case rel => exact ⟨j + 1, by omega, by simp, by rw [HSN.out, decide_eq_false (show ¬ (j : Int) < l by omega), decide_eq_false (show ¬ n ≤ (j : Int) by omega)]; rfl, rfl⟩
                case measure => omega
        · go_wp2_with fail
          go_roundg (gk - 1)
          case rel => exact ⟨j + 1, by omega, by simp, by rw [HSN.out]; rfl, rfl⟩
          case measure => omega
      · obtain rfl : j = 16 := by omega
        have hsb : strangeN U l n 16 = strangeB (bits BinOp.or IntKind.u16 o z) l n := by rw [← HUU.out]; rfl
        rw [hsb]
        have hge : ¬ ((16 : Nat) : Int) < 16 := by decide
        have hl01 : 0 ≤ l := by omega
        obtain ⟨S, hS⟩ : ∃ S, S = strangeB (bits BinOp.or IntKind.u16 o z) l n := ⟨_, rfl⟩
        have hout := HC.out.out
        rw [← hS] at hout ⊢
        have HSS := Lib.hid hS
        clear hS hsb HVL hj hj16
        rcases hout with ⟨c1, c2, c3, c4⟩ | ⟨c1, c2, c3, c4, c5⟩ | ⟨c1, _, _, c2, c3, c4, c5, c6⟩ | ⟨c1, _, _, c2, c3, c4, c5, c6⟩
        · rw [c1] at hIS
          rw [c4] at hLEN
          have HIS := Lib.hid hIS
          have HLEN := Lib.hid hLEN
          subst c2 c3
          clear c1 c4 hIS hLEN
          go_wp2_with (first
            | (go_at_call 12; refine (HIS.out _).mono ?_; rintro e w5 ⟨rfl, rfl⟩)
            | (go_at_call 13; refine (HLEN.out _ hk4).mono ?_; rintro e w5 ⟨rfl, rfl⟩)
            | fail)
          go_ret
          exact ⟨rfl, HKW.out.trans hk4⟩
        · obtain rfl : S = true := by
            rcases c2 with c2 | c2 | c2
            · omega
            · omega
            · exact c2
          rw [c1] at hIS
          rw [c5] at hLEN
          have HIS := Lib.hid hIS
          have HLEN := Lib.hid hLEN
          subst c3 c4
          clear c1 c2 c5 hIS hLEN
          go_wp2_with (first
            | (go_at_call 12; refine (HIS.out _).mono ?_; rintro e w5 ⟨rfl, rfl⟩)
            | (go_at_call 13; refine (HLEN.out _ hk4).mono ?_; rintro e w5 ⟨rfl, rfl⟩)
            | fail)
          go_ret
          exact ⟨rfl, HKW.out.trans hk4⟩
        · rw [c1] at hIS
          rw [c6] at hLEN
          have HIS := Lib.hid hIS
          have HLEN := Lib.hid hLEN
          subst c2 c4 c5
          clear c1 c6 hIS hLEN
          go_wp2_with (first
            | (go_at_call 12; refine (HIS.out _).mono ?_; rintro e w5 ⟨rfl, rfl⟩)
            | (go_at_call 13; refine (HLEN.out _ hk4).mono ?_; rintro e w5 ⟨rfl, rfl⟩)
            | fail)
          go_ret
          exact ⟨rfl, HKW.out.trans hk4⟩
        · have hf15 : 1 ≤ f ∧ f ≤ 5 := by unfold isFormB at c1; simpa using c1
          rw [c1] at hIS
          have HIS := Lib.hid hIS
          have HREP := HC.out.rep
          obtain ⟨m, rfl⟩ : ∃ m : Nat, l = (m : Int) := ⟨l.toNat, by omega⟩
          obtain ⟨k, hnk⟩ : ∃ k : Nat, (m : Int) + (k : Int) = n := ⟨(n - (m : Int)).toNat, by omega⟩
          have hkk : (n - (m : Int)).toNat = k := by omega
          have hTB := fun (W : World) => rcube_calls m k o z W (by omega) o0 o1 z0 z1
          rw [hnk] at hTB
          have HTB := Lib.hid hTB
          subst c2
          rcases c6 with ⟨d1, d2, d3⟩ | ⟨d1, d2, d3, d4⟩
          · rw [hkk] at d2
            have hld := d2.leads HREP.wf hf15 (by rw [c4]; exact hnk)
            have hrg := fun (W : World) (hW : Keeps w3 W) => canon_right (HREP.keeps hW) f x (m : Int) c5
            rw [kRight_of hf15 hld d3] at hrg
            obtain ⟨N, hN⟩ : ∃ N : Nat, n = (N : Int) := ⟨n.toNat, by omega⟩
            have hun := fun (W : World) (hW : Keeps w3 W) => unfK_calls (HREP.keeps hW) (by omega) f hf15 (N + 1) (by omega) x c5 (lead_tag hld (by omega))
            rw [show ((N + 1 : Nat) : Int) - 1 = n by omega] at hun
            have tw := twoK HREP.wf hf15 d2 (by rw [c4]; exact hnk) hl01 N (by omega)
            have hp : 2 ^ k ≤ 2 ^ 7 := Nat.pow_le_pow_right (by decide) (by omega)
            have e7 : (2 : Nat) ^ 7 = 128 := rfl
            have htm := fun (B : Nat) (W : World) (hB : TabAt W B 0 (cubeT o z k (m : Int))) => termK_calls f hf15 k (by omega) 0 (2 ^ k) (cubeT o z k (m : Int)) (m : Int) W hB (cubeT_len o z k _) (Nat.le_refl _) (by omega) hl01 (by omega)
            rw [← tw] at htm
            obtain ⟨s, hs⟩ : ∃ s, s = unfS f M' (N + 1) x := ⟨_, rfl⟩
            rw [← hs] at hun htm
            obtain ⟨p, hpp⟩ : ∃ p, p = 2 ^ k := ⟨_, rfl⟩
            rw [← hpp] at htm HTB
            have HRG := Lib.hid hrg
            have HUN := Lib.hid hun
            have HTM := Lib.hid htm
            subst d1
            clear hIS hLEN hTB d2 d3 hld hrg hun htm tw hs hpp c4 c5 hN hnk hkk hp e7 HREP
            go_wp2_with (first | (go_at_call 12; refine (HIS.out _).mono ?_; rintro e w5 ⟨rfl, rfl⟩) | fail)
            refine (HTB.out _).mono ?_
            rintro e w5 ⟨rfl, hB, hk5⟩
            have HB5 := Lib.hid hB
            replace x0' := hk5.cell x0'
            replace x1' := hk5.cell x1'
            have hk35 := hk4.trans hk5
            clear hB
            go_wp2_with fail
            refine (HRG.out _ hk35).mono ?_
            rintro e w6 ⟨rfl, hk6⟩
            replace x0' := hk6.cell x0'
            replace x1' := hk6.cell x1'
            go_wp2_with fail
            refine (HUN.out _ (hk35.trans hk6)).mono ?_
            rintro e w7 ⟨rfl, hk7⟩
            go_wp2_with fail
            refine (HTM.out _ _ (fun i b hb => by rw [Nat.zero_add]; exact (HB5.out.keep (Keeps.upd (hk6.trans hk7) (fun _ => False)) (fun h => h)).cell hb)).mono ?_
            rintro e w8 ⟨rfl, hk8⟩
            go_wp2_with fail
            go_ret
            exact ⟨rfl, (HKW.out.trans hk35).trans ((hk6.trans hk7).trans hk8)⟩
          · rw [d3] at hLEN
            have HLEN := Lib.hid hLEN
            subst d1 d2
            clear hIS hLEN hTB c4 c5 hnk hkk d3 HREP
            go_wp2_with (first | (go_at_call 12; refine (HIS.out _).mono ?_; rintro e w5 ⟨rfl, rfl⟩) | fail)
            refine (HTB.out _).mono ?_
            rintro e w5 ⟨rfl, hB, hk5⟩
            replace x0' := hk5.cell x0'
            replace x1' := hk5.cell x1'
            have hk35 := hk4.trans hk5
            clear hB
            go_wp2_with (first | (go_at_call 13; refine (HLEN.out _ hk35).mono ?_; rintro e w6 ⟨rfl, rfl⟩) | fail)
            go_ret
            exact ⟨rfl, HKW.out.trans hk35⟩

theorem canonCubes_walk (n room f l o z : Int) (w : World) (_ : (Lit.int .i64 n).wf = true) (_ : (Lit.int .i64 room).wf = true) (_ : (Lit.int .u8 f).wf = true) (_ : (Lit.int .i64 l).wf = true) (ho : (Lit.int .u16 o).wf = true) (hz : (Lit.int .u16 z).wf = true) :
    Calls Tryz.prog 3 #[.int .i64 n, .int .i64 room, .int .u8 f, .int .i64 l, .int .u16 o, .int .u16 z] w fun e w' => e = .returned (.bool true) ∧ Keeps w w' := by
  by_cases h : n < 0 ∨ 7 < n ∨ room < 0 ∨ 100 < room
  · exact canonCubes_out n room f l o z w h
  · have hmin : IntKind.u16.min = 0 := rfl
    have hmax : IntKind.u16.max = 65535 := rfl
    simp only [Lit.wf, Bool.and_eq_true, decide_eq_true_eq, hmin, hmax] at ho hz
    exact canonCubes_in n room f l o z w (by omega) (by omega) (by omega) (by omega) ho.1 ho.2 hz.1 hz.2

set_option maxRecDepth 100000 in
theorem canonCubes_lifted (os : Os) (started : os.Started) (H : Type) (enc : TypeId × Value → H) :
    ReturnsInHanded {} Tryz.checked os 3 .any (Rows.canonCubesSpec.pre6 enc Tryz.prog Tryz.f3 Rows.canonCubesRow.domain false) (Rows.canonCubesSpec.post enc Tryz.prog Tryz.f3 false true false false) := by
  refine returnsInHanded_of_change (C := Tryz.checked) own started (by kernel_rfl) Tryz.func3
    (ChangeSpec.witness6 (enc := enc) (C := Tryz.checked) false ⟨#[], #[.int .i64 0, .int .i64 0, .int .u8 0, .int .i64 0, .int .u16 0, .int .u16 0], []⟩ 12 (by kernel_rfl) (by kernel_rfl) (by kernel_rfl) (by kernel_rfl)) ?_
  intro W base args ds gs before hval0 hW hcnd _
  have hval : ∀ (j : Nat) t v, Tryz.f3.params[j]? = some t → args[j]? = some v → Value.okWide Tryz.prog W .any base t v := hval0
  have hW' := hW
  obtain ⟨p, q, hA0, hV, rfl, hfz, hnd⟩ := hW
  have hA : DataW.TrodAll enc Tryz.prog W 0 (fun _ => true) true Tryz.f3.params.toList args.toList ds p := hA0
  rw [Tryz.params3] at hA hval
  have hAk := hA
  obtain ⟨v0, vs0, d0, ds0, p0, q0, hargs, rfl, rfl, h0, r0⟩ := trodAll_cons hA
  obtain ⟨v1, vs1, d1, ds1, p1, q1, rfl, rfl, rfl, h1, r1⟩ := trodAll_cons r0
  obtain ⟨v2, vs2, d2, ds2, p2, q2, rfl, rfl, rfl, h2, r2⟩ := trodAll_cons r1
  obtain ⟨v3, vs3, d3, ds3, p3, q3, rfl, rfl, rfl, h3, r3⟩ := trodAll_cons r2
  obtain ⟨v4, vs4, d4, ds4, p4, q4, rfl, rfl, rfl, h4, r4⟩ := trodAll_cons r3
  obtain ⟨v5, vs5, d5, ds5, p5, q5, rfl, rfl, rfl, h5, r5⟩ := trodAll_cons r4
  obtain ⟨rfl, rfl, rfl⟩ := trodAll_nil r5
  obtain rfl : args = #[v0, v1, v2, v3, v4, v5] := by cases args; simp_all
  obtain ⟨rfl, rfl⟩ := trodVars_none hV
  obtain ⟨a0, rfl, rfl, rfl, w0⟩ := open_int Tryz.underlying3 (hval 0 3 v0 rfl rfl) h0
  obtain ⟨a1, rfl, rfl, rfl, w1⟩ := open_int Tryz.underlying3 (hval 1 3 v1 rfl rfl) h1
  obtain ⟨a2, rfl, rfl, rfl, w2⟩ := open_int Tryz.underlying5 (hval 2 5 v2 rfl rfl) h2
  obtain ⟨a3, rfl, rfl, rfl, w3⟩ := open_int Tryz.underlying3 (hval 3 3 v3 rfl rfl) h3
  obtain ⟨a4, rfl, rfl, rfl, w4⟩ := open_int Tryz.underlying22 (hval 4 22 v4 rfl rfl) h4
  obtain ⟨a5, rfl, rfl, rfl, w5⟩ := open_int Tryz.underlying22 (hval 5 22 v5 rfl rfl) h5
  clear hA0 hval0
  refine (canonCubes_walk a0 a1 a2 a3 a4 a5 W w0 w1 w2 w3 w4 w5).mono fun e W' ⟨he, bel⟩ => ?_
  subst he
  exact ⟨_, rfl, _, _, _, [], _, [], hW', trodAll_mk1 (shut_bool Tryz.underlying4 _), trodAll_below laidOut bel _ _ _ _ (by kernel_rfl) hAk, rfl, Below.frame bel _, fun h => by cases h⟩

theorem canonCubes_over : Rows.canonCubesRow.holds Tryz.pinned (OpenSpec.ofChange Rows.canonCubesSpec) :=
  OpenClaim.holds_of_wide 3 Tryz.f3 rfl rfl rfl rfl rfl rfl rfl ⟨rfl, rfl, rfl, rfl, rfl⟩ rfl rfl rfl rfl rfl (by kernel_rfl) Tryz.func3 (by kernel_rfl)
    (of_decide_eq_true (by kernel_rfl)) (by unfold Func.isWrapper; first | (rw [if_pos (by decide +kernel)]; kernel_rfl) | (rw [if_neg (by decide +kernel)]; exact ⟨rfl, rfl⟩))
    (fun os started H enc _ => canonCubes_lifted os started H enc)

theorem canonCubes_proved : Rows.CanonCubesSaid := canonCubes_over

end Go.Proofs.YtiacdpoldgfpbaaGreat
