/-
  The walk of ramageref12.Parts.
-/
import Derived.Test.YtoeoehbpahodnaaGreatPPartsA
import Derived.Test.YtoeoehbpahodnaaGreatPTextsAxB
namespace Go.Proofs.YtoeoehbpahodnaaGreat
set_option linter.unusedSimpArgs false
set_option linter.unusedVariables false
set_option maxHeartbeats 600000
open Go.RowKit

theorem scanL_le : ∀ (u : List UInt8) (d : Nat), scanL u d ≤ u.length := by
  intro u
  induction u with
  | nil => intro d; exact Nat.le_refl _
  | cons b u ih =>
    intro d
    cases d with
    | zero => exact Nat.zero_le _
    | succ d => have := ih (if b = 40 then d + 2 else if b = 41 then d else d + 1); simp only [scanL, List.length_cons]; omega

theorem partsTo_len (t : ByteArray) (i : Nat) : (partsTo t i).length ≤ i := by
  induction i with
  | zero => exact Nat.le_refl _
  | succ i ih =>
    unfold partsTo
    split
    · split
      · omega
      · rw [List.length_append]; simp; omega
    · omega

theorem byte_at (t : ByteArray) {k : Nat} (h : k < t.size) : t.data.toList.drop k = t[k] :: t.data.toList.drop (k + 1) := by
  have h' : k < t.data.toList.length := by simpa using h
  rw [List.drop_eq_getElem_cons h']
  rfl

theorem byte_get (t : ByteArray) {k : Nat} (h : k < t.size) : t.data.toList[k]? = some t[k] := by
  have h' : k < t.data.toList.length := by simpa using h
  rw [List.getElem?_eq_getElem h']
  rfl

theorem byte_is (b : UInt8) (n : Nat) (hn : n < 256) : ((b.toNat : Int) = (n : Int)) ↔ b = UInt8.ofNat n := by
  constructor
  · intro h
    have : b.toNat = n := by omega
    rw [← this, UInt8.ofNat_toNat]
  · intro h
    rw [h, UInt8.toNat_ofNat']
    omega

theorem endAt_le (t : ByteArray) {i : Nat} (h : i < t.size) : i + 1 ≤ endAt t.data.toList i ∧ endAt t.data.toList i ≤ t.size := by
  have := scanL_le (t.data.toList.drop (i + 1)) 1
  rw [List.length_drop] at this
  have hs : t.data.toList.length = t.size := by simp
  unfold endAt
  omega

theorem info_string : (Tryz.prog.info? 9).map (fun i => (i.zero, i.size, i.bytes)) = some (some (.string ByteArray.empty), 1, 16) := by kernel_rfl

set_option maxRecDepth 100000 in
set_option maxHeartbeats 1000000 in
theorem parts_calls (t : ByteArray) (w : World) (ht : t.size ≤ 1048576) :
    Calls Tryz.prog 208 #[.string t] w fun e w' => ∃ a cap, e = .returned (.slice a (partsTo t t.size).length cap) ∧ Keeps w w' := by
  obtain ⟨i0, hi, hz0, hz1, hz2⟩ := info_parts info_string
  go_enter Tryz.func208, Tryz.ntmps208
  go_wp2_with fail
  go_loopg [3, 4] t.size (fun gk s3 s4 wr => ∃ i : Nat, i + gk = t.size ∧ s4 = .int .i64 (i : Int) ∧ wr.ownsRow w.heap.size 9 1 s3 (partsTo t i).length ((partsTo t i).map Value.string) ∧ Keeps w wr)
  case atStart => exact ⟨0, by omega, rfl, World.ownsRow_nil _ _ _ _, Keeps.refl _⟩
  case round =>
    obtain ⟨i, hi', rfl, hrow, hk⟩ := hrel
    obtain ⟨va, vcap, rfl, hva⟩ := owns_slice hrow
    have HROW := Lib.hid hrow
    have HK := Lib.hid hk
    have hpl := partsTo_len t i
    clear hrow hk hva
    by_cases hlt : i < t.size
    · obtain ⟨bv, hbv⟩ : ∃ bv, bv = t[i] := ⟨_, rfl⟩
      by_cases hb : bv = 40
      · have hbn : ((t[i].toNat : Int) != 40) = false := by rw [← hbv, hb]; rfl
        have hstep : partsTo t (i + 1) = if (partsTo t i).any (fun s => s.toList == (t.extract i (endAt t.data.toList i)).toList) then partsTo t i else partsTo t i ++ [t.extract i (endAt t.data.toList i)] := by
          show (if t.data.toList[i]? = some 40 then _ else _) = _
          rw [byte_get t hlt, ← hbv, hb, if_pos rfl]
        obtain ⟨el, eu⟩ := endAt_le t hlt
        obtain ⟨ps, hps⟩ : ∃ ps, ps = partsTo t i := ⟨_, rfl⟩
        obtain ⟨en, hen⟩ : ∃ en, en = endAt t.data.toList i := ⟨_, rfl⟩
        have hend : i + 1 + scanL (t.data.toList.drop (i + 1)) 1 = en := hen.symm
        rw [← hps, ← hen] at hstep
        rw [← hen] at el eu
        rw [← hps] at HROW hpl ⊢
        have HSTEP := Lib.hid hstep
        have HEND := Lib.hid hend
        clear hstep hend hbv hb hps hen
        go_wp2_with fail
        obtain ⟨W6, rfl⟩ : ∃ W6, W6 = wr := ⟨wr, rfl⟩
        obtain ⟨g0, hg0⟩ : ∃ g0, g0 = gk := ⟨gk, rfl⟩
        go_loopg [5, 6] (t.size - (i + 1)) (fun gj s5 s6 ws => ∃ d k : Nat, s5 = .int .i64 (d : Int) ∧ s6 = .int .i64 (k : Int) ∧ k + gj = t.size ∧ k + scanL (t.data.toList.drop k) d = en ∧ d ≤ k ∧ ws = W6)
        case atStart => exact ⟨1, i + 1, rfl, by go_num, by omega, HEND.out, by omega, rfl⟩
        case round =>
          obtain ⟨d, k, rfl, rfl, hkg, hsc, hdk, rfl⟩ := hrel
          have hsl : t.data.toList.length = t.size := by simp
          rcases Nat.lt_or_ge k t.size with h1 | h1
          · rcases Nat.eq_zero_or_pos d with hd0 | hd0
            · subst hd0
              rw [scanL_zero] at hsc
              obtain rfl : k = en := by omega
              clear hsc
              go_wp2_with fail
              obtain ⟨W7, rfl⟩ : ∃ W7, W7 = wr := ⟨wr, rfl⟩
              obtain ⟨g1, hg1⟩ : ∃ g1, g1 = gk := ⟨gk, rfl⟩
              go_loopg [7, 8] ps.length (fun gj s7 s8 ws => ∃ j : Nat, j + gj = ps.length ∧ s7 = .bool ((ps.take j).any (fun s => s.toList == (t.extract i k).toList)) ∧ s8 = .int .i64 (j : Int) ∧ Keeps W7 ws)
              case atStart => exact ⟨0, by omega, rfl, rfl, Keeps.refl _⟩
              case round =>
                obtain ⟨j, hj, rfl, rfl, hk7⟩ := hrel
                have HROW7 := Lib.hid (hk7.owns HROW.out)
                have HK7 := Lib.hid (HK.out.trans hk7)
                by_cases hjl : j < ps.length
                · obtain ⟨x, hx⟩ : ∃ x, ps[j]? = some x := ⟨_, List.getElem?_eq_getElem hjl⟩
                  obtain ⟨g, rfl, hgc⟩ : ∃ g, va = some ⟨g, 0, none⟩ ∧ wr.cell? ⟨g, j, none⟩ = some (.string x) := by
                    rcases HROW7.out.2 with ⟨e0, hz⟩ | ⟨g2, cap2, cur, e0, hbg, _⟩
                    · omega
                    · cases e0
                      refine ⟨g2, rfl, ?_⟩
                      rw [HROW7.out.cellAt j (by omega)]
                      simp [hx]
                  have hval : (ps.take (j + 1)).any (fun s => s.toList == (t.extract i k).toList) = ((ps.take j).any (fun s => s.toList == (t.extract i k).toList) || (x.toList == (t.extract i k).toList)) := by
                    rw [List.take_add_one, hx, List.any_append]
                    simp
                  have HVAL := Lib.hid hval
                  clear hval hx
                  obtain ⟨b, hb⟩ : ∃ b, b = (ps.take j).any (fun s => s.toList == (t.extract i k).toList) := ⟨_, rfl⟩
                  rw [← hb] at HVAL ⊢
                  clear hb
                  cases b
                  · go_wp2_with fail
                    go_quiet (fail)
                    go_wp2
                    go_roundg (gk - 1)
                    case rel => exact ⟨j + 1, by omega, by rw [HVAL.out]; rfl, by go_num, by (exact kp)⟩
                    case measure => omega
                  · go_wp2_with fail
                    go_quiet (fail)
                    go_wp2
                    go_roundg (gk - 1)
                    case rel => exact ⟨j + 1, by omega, by rw [HVAL.out]; rfl, by go_num, by (exact kp)⟩
                    case measure => omega
                · have hall : ps.take j = ps := List.take_of_length_le (by omega)
                  rw [hall]
                  obtain ⟨b, hb⟩ : ∃ b, b = ps.any (fun s => s.toList == (t.extract i k).toList) := ⟨_, rfl⟩
                  rw [← hb] at HSTEP ⊢
                  clear hb hall
                  have q2 : ps.length + 1 ≤ maxLen := by unfold maxLen; omega
                  have q3 : (ps.length + 1) * 16 ≤ 140737488355328 := by omega
                  have hsz := HK7.out.size
                  cases b
                  · go_wp2_with (first
                      | (at_builtin; refine wpList_append_own _ rfl _ _ 136 rfl w.heap.size 9 i0 (.string ByteArray.empty) 1 16 Tryz.underlying136 hi hz0 hz1 hz2 rfl (by decide) (.slice va ps.length vcap) ps.length (ps.map Value.string) rfl (HROW7.out.alloc _) ⟨wr.heap.size, 0, none⟩ 1 1 [.string (t.extract i k)] rfl rfl (cell_new _ _ _ _ rfl) (by simp [Value.oneCell']) (by exact q2) (by exact q3) (by simp; omega) ?_; intro v3 w3 hown3 hg3 _)
                      | fail)
                    go_roundg (g0 - 1)
                    case rel =>
                      refine ⟨i + 1, by omega, by go_num, ?_, ?_⟩
                      · rw [HSTEP.out, if_neg (by decide), List.length_append, List.map_append]
                        exact hown3
                      · refine Keeps.new (F := fun k => Value.ownBlock (.slice va ps.length vcap) = some k) (HK7.out.alloc _) ⟨hg3.os, hg3.tape, hg3.output, hg3.size, fun k hk hn => hg3.block k hk (fun e => hn e.symm)⟩ (fun k hk => ?_)
                        rcases HROW7.out.2 with ⟨e0, _⟩ | ⟨g2, cap2, cur, e0, hbg, _⟩
                        · rw [e0] at hk; simp [Value.ownBlock] at hk
                        · rw [e0] at hk; simp [Value.ownBlock] at hk; omega
                    case measure => omega
                  · go_wp2_with fail
                    go_roundg (g0 - 1)
                    case rel => exact ⟨i + 1, by omega, by go_num, by rw [HSTEP.out, if_pos (by simp)]; exact HROW7.out, HK7.out⟩
                    case measure => omega
            · obtain ⟨d', rfl⟩ : ∃ d', d = d' + 1 := ⟨d - 1, by omega⟩
              rw [byte_at t h1] at hsc
              simp only [scanL] at hsc
              obtain ⟨bv, hbv⟩ : ∃ bv, bv = t[k] := ⟨_, rfl⟩
              rw [← hbv] at hsc
              have hbne : ∀ n : Nat, n < 256 → bv ≠ UInt8.ofNat n → ((t[k].toNat : Int) == (n : Int)) = false := fun n hn hne => by
                rw [← hbv]
                have := mt (byte_is bv n hn).1 hne
                simp
                omega
              by_cases hb40 : bv = 40
              · have e40 : ((t[k].toNat : Int) == 40) = true := by rw [← hbv, hb40]; rfl
                have e41 : ((t[k].toNat : Int) == 41) = false := by rw [← hbv, hb40]; rfl
                rw [if_pos hb40] at hsc
                have HSC := Lib.hid hsc
                clear hsc hbv hb40 hbne
                go_wp2
                go_roundg (gk - 1)
                case rel => exact ⟨d' + 2, k + 1, by go_num, by go_num, by omega, by have := HSC.out; omega, by omega, rfl⟩
                case measure => omega
              · have e40 : ((t[k].toNat : Int) == 40) = false := hbne 40 (by omega) hb40
                by_cases hb41 : bv = 41
                · have e41 : ((t[k].toNat : Int) == 41) = true := by rw [← hbv, hb41]; rfl
                  rw [if_neg hb40, if_pos hb41] at hsc
                  have HSC := Lib.hid hsc
                  clear hsc hbv hb40 hb41 hbne
                  go_wp2
                  go_roundg (gk - 1)
                  case rel => exact ⟨d', k + 1, by go_num, by go_num, by omega, by have := HSC.out; omega, by omega, rfl⟩
                  case measure => omega
                · have e41 : ((t[k].toNat : Int) == 41) = false := hbne 41 (by omega) hb41
                  rw [if_neg hb40, if_neg hb41] at hsc
                  have HSC := Lib.hid hsc
                  clear hsc hbv hb40 hb41 hbne
                  go_wp2
                  go_roundg (gk - 1)
                  case rel => exact ⟨d' + 1, k + 1, by go_num, by go_num, by omega, by have := HSC.out; omega, by omega, rfl⟩
                  case measure => omega
          · have hnil : t.data.toList.drop k = [] := List.drop_eq_nil_of_le (by omega)
            rw [hnil] at hsc
            obtain rfl : k = en := by simp only [scanL] at hsc; omega
            clear hsc hnil
            go_wp2_with fail
            obtain ⟨W7, rfl⟩ : ∃ W7, W7 = wr := ⟨wr, rfl⟩
            obtain ⟨g1, hg1⟩ : ∃ g1, g1 = gk := ⟨gk, rfl⟩
            go_loopg [7, 8] ps.length (fun gj s7 s8 ws => ∃ j : Nat, j + gj = ps.length ∧ s7 = .bool ((ps.take j).any (fun s => s.toList == (t.extract i k).toList)) ∧ s8 = .int .i64 (j : Int) ∧ Keeps W7 ws)
            case atStart => exact ⟨0, by omega, rfl, rfl, Keeps.refl _⟩
            case round =>
              obtain ⟨j, hj, rfl, rfl, hk7⟩ := hrel
              have HROW7 := Lib.hid (hk7.owns HROW.out)
              have HK7 := Lib.hid (HK.out.trans hk7)
              by_cases hjl : j < ps.length
              · obtain ⟨x, hx⟩ : ∃ x, ps[j]? = some x := ⟨_, List.getElem?_eq_getElem hjl⟩
                obtain ⟨g, rfl, hgc⟩ : ∃ g, va = some ⟨g, 0, none⟩ ∧ wr.cell? ⟨g, j, none⟩ = some (.string x) := by
                  rcases HROW7.out.2 with ⟨e0, hz⟩ | ⟨g2, cap2, cur, e0, hbg, _⟩
                  · omega
                  · cases e0
                    refine ⟨g2, rfl, ?_⟩
                    rw [HROW7.out.cellAt j (by omega)]
                    simp [hx]
                have hval : (ps.take (j + 1)).any (fun s => s.toList == (t.extract i k).toList) = ((ps.take j).any (fun s => s.toList == (t.extract i k).toList) || (x.toList == (t.extract i k).toList)) := by
                  rw [List.take_add_one, hx, List.any_append]
                  simp
                have HVAL := Lib.hid hval
                clear hval hx
                obtain ⟨b, hb⟩ : ∃ b, b = (ps.take j).any (fun s => s.toList == (t.extract i k).toList) := ⟨_, rfl⟩
                rw [← hb] at HVAL ⊢
                clear hb
                cases b
                · go_wp2_with fail
                  go_quiet (fail)
                  go_wp2
                  go_roundg (gk - 1)
                  case rel => exact ⟨j + 1, by omega, by rw [HVAL.out]; rfl, by go_num, by (exact kp)⟩
                  case measure => omega
                · go_wp2_with fail
                  go_quiet (fail)
                  go_wp2
                  go_roundg (gk - 1)
                  case rel => exact ⟨j + 1, by omega, by rw [HVAL.out]; rfl, by go_num, by (exact kp)⟩
                  case measure => omega
              · have hall : ps.take j = ps := List.take_of_length_le (by omega)
                rw [hall]
                obtain ⟨b, hb⟩ : ∃ b, b = ps.any (fun s => s.toList == (t.extract i k).toList) := ⟨_, rfl⟩
                rw [← hb] at HSTEP ⊢
                clear hb hall
                have q2 : ps.length + 1 ≤ maxLen := by unfold maxLen; omega
                have q3 : (ps.length + 1) * 16 ≤ 140737488355328 := by omega
                have hsz := HK7.out.size
                cases b
                · go_wp2_with (first
                    | (at_builtin; refine wpList_append_own _ rfl _ _ 136 rfl w.heap.size 9 i0 (.string ByteArray.empty) 1 16 Tryz.underlying136 hi hz0 hz1 hz2 rfl (by decide) (.slice va ps.length vcap) ps.length (ps.map Value.string) rfl (HROW7.out.alloc _) ⟨wr.heap.size, 0, none⟩ 1 1 [.string (t.extract i k)] rfl rfl (cell_new _ _ _ _ rfl) (by simp [Value.oneCell']) (by exact q2) (by exact q3) (by simp; omega) ?_; intro v3 w3 hown3 hg3 _)
                    | fail)
                  go_roundg (g0 - 1)
                  case rel =>
                    refine ⟨i + 1, by omega, by go_num, ?_, ?_⟩
                    · rw [HSTEP.out, if_neg (by decide), List.length_append, List.map_append]
                      exact hown3
                    · refine Keeps.new (F := fun k => Value.ownBlock (.slice va ps.length vcap) = some k) (HK7.out.alloc _) ⟨hg3.os, hg3.tape, hg3.output, hg3.size, fun k hk hn => hg3.block k hk (fun e => hn e.symm)⟩ (fun k hk => ?_)
                      rcases HROW7.out.2 with ⟨e0, _⟩ | ⟨g2, cap2, cur, e0, hbg, _⟩
                      · rw [e0] at hk; simp [Value.ownBlock] at hk
                      · rw [e0] at hk; simp [Value.ownBlock] at hk; omega
                  case measure => omega
                · go_wp2_with fail
                  go_roundg (g0 - 1)
                  case rel => exact ⟨i + 1, by omega, by go_num, by rw [HSTEP.out, if_pos (by simp)]; exact HROW7.out, HK7.out⟩
                  case measure => omega
      · have hbn : ((t[i].toNat : Int) != 40) = true := by
          rw [← hbv]
          have := mt (byte_is bv 40 (by omega)).1 hb
          simp
          omega
        have hstep : partsTo t (i + 1) = partsTo t i := by
          show (if t.data.toList[i]? = some 40 then _ else _) = _
          rw [byte_get t hlt, ← hbv, if_neg (fun e => hb (by cases e; rfl))]
        have HSTEP := Lib.hid hstep
        clear hstep hbv hb
        go_wp2_with fail
        go_roundg (gk - 1)
        case rel => exact ⟨i + 1, by omega, by go_num, by rw [HSTEP.out]; exact HROW.out, HK.out⟩
        case measure => omega
    · go_wp2
      go_ret
      have e1 : i = t.size := by omega
      rw [e1]
      exact ⟨va, vcap, rfl, HK.out⟩

end Go.Proofs.YtoeoehbpahodnaaGreat
