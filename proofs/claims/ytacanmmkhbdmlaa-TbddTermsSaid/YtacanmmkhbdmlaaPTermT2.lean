/-
  ramageref16.Term over tables.
-/
import Derived.Test.YtacanmmkhbdmlaaPTermT1
import Derived.Deep.CutBlock
namespace Go.Proofs.Ytacanmmkhbdmlaa
set_option linter.unusedSimpArgs false
set_option linter.unusedVariables false
set_option maxHeartbeats 600000
open Go.RowKit

set_option maxRecDepth 100000 in
theorem termT_step {B off : Nat} {ts : List Bool} (k n cap : Nat) (l : Int) (w : World) (hk : k ≤ 9) (h : TabAt w B off ts) (hl : ts.length = 2 ^ k) (hcap : 2 ^ k ≤ cap) (hcap2 : cap ≤ 4096) (hl0 : 0 ≤ l) (hl9 : l + (k : Nat) < 10) (hn20 : n ≤ 20) (hnn : noneL ts = false)
    (ih : ∀ (c : Nat), c < k → ∀ (off cap : Nat) (ts : List Bool) (l : Int) (W : World), TabAt W B off ts → ts.length = 2 ^ c → 2 ^ c ≤ cap → cap ≤ 4096 → 0 ≤ l → l + (c : Nat) < 10 → Calls Try.prog 17 #[.slice (some ⟨B, off, none⟩) (2 ^ c) cap, .int .i64 l] W fun e w' => e = .returned (.string (termT n c ts l)) ∧ Keeps W w') :
    Calls Try.prog 17 #[.slice (some ⟨B, off, none⟩) (2 ^ k) cap, .int .i64 l] w fun e w' => e = .returned (.string (termT (n + 1) k ts l)) ∧ Keeps w w' := by
  have HNONE := Lib.hid (fun (W : World) (hW : Keeps w W) => by have := none16_calls cap W (h.keeps hW) (by rw [hl]; omega); rw [hl, hnn] at this; exact this)
  obtain ⟨a, ha⟩ : ∃ a, a = (stripS k ts).1 := ⟨_, rfl⟩
  have hak : a ≤ k := by rw [ha]; exact stripS_le k ts
  obtain ⟨P, hP⟩ : ∃ P, P = 2 ^ k := ⟨_, rfl⟩
  have H := Lib.hid h
  have HL := Lib.hid hl
  have HA := Lib.hid ha
  have HCAP := Lib.hid hcap
  have hP4 : P ≤ 4096 := by omega
  rw [← hP] at HNONE ⊢
  have HP := Lib.hid hP
  have HNN := Lib.hid hnn
  have HIH := Lib.hid ih
  clear h hl ha hcap hP hnn ih
  go_enter Try.func17, Try.ntmps17
  go_upto_block 0 with (first | (go_at_call 62; refine (HNONE.out _ (by (repeat (first | with_reducible exact Keeps.refl _ | with_reducible assumption | with_reducible refine Keeps.alloc ?_ _ | with_reducible refine Keeps.drewN ?_ _ | with_reducible refine Keeps.drew ?_ | refine Keeps.setCell ?_ (by dsimp only; omega) _ | with_reducible refine Keeps.trans ?_ (by assumption))))).mono ?_; rintro e w2 ⟨rfl, rfl⟩) | fail)
  go_cut [0, 5, 6, 7] from 16 to 30 (fun s0 s5 s6 s7 wc => s0 = .slice (some ⟨B, off, none⟩) (2 ^ a) cap ∧ s5 = .int .i64 (l + (k - a : Nat)) ∧ Keeps w wc)
  case first =>
    go_wp2_with fail
    go_loopg [0, 5, 6, 7] k (fun gk s0 s5 s6 s7 wr => ∃ (q : Nat) (t : List Bool), s0 = .slice (some ⟨B, off, none⟩) q cap ∧ q = 2 ^ gk ∧ s5 = .int .i64 (l + (k - gk : Nat)) ∧ gk ≤ k ∧ t.length = 2 ^ gk ∧ TabAt w B off t ∧ stripS gk t = stripS k ts ∧ Keeps w wr)
    case atStart => exact ⟨P, ts, rfl, HP.out, by simp, Nat.le_refl _, HL.out, H.out, rfl, by (repeat (first | with_reducible exact Keeps.refl _ | with_reducible assumption | with_reducible refine Keeps.alloc ?_ _ | with_reducible refine Keeps.drewN ?_ _ | with_reducible refine Keeps.drew ?_ | refine Keeps.setCell ?_ (by dsimp only; omega) _ | with_reducible refine Keeps.trans ?_ (by assumption)))⟩
    case round =>
      obtain ⟨q, t, rfl, hq, rfl, hgk, htl, hT, hst, hkr⟩ := hrel
      obtain ⟨m, hm⟩ : ∃ m, m = l + ((k - gk : Nat) : Int) := ⟨_, rfl⟩
      have m0 : 0 ≤ m := by omega
      have m1 : m ≤ 20 := by omega
      rw [← hm]
      have HM := Lib.hid hm
      have HST := Lib.hid hst
      have HT := Lib.hid hT
      have HTL := Lib.hid htl
      clear hm hst hT
      cases gk with
      | zero =>
        have hq1 : q = 1 := hq
        subst hq1
        clear htl hq
        go_wp2_with fail
        go_meet
        have ea : a = 0 := by rw [HA.out, ← HST.out]; rfl
        exact ⟨by rw [ea], by rw [HM.out, ea], hkr⟩
      | succ g =>
        have e2 : 2 ^ (g + 1) = 2 * 2 ^ g := by rw [Nat.pow_succ]; omega
        obtain ⟨p, hp⟩ : ∃ p, p = 2 ^ g := ⟨_, rfl⟩
        have hp1 : 1 ≤ p := by rw [hp]; exact Nat.pow_pos (by decide)
        rw [e2, ← hp] at hq htl
        subst hq
        have hmono : 2 ^ (g + 1) ≤ 2 ^ k := Nat.pow_le_pow_right (by decide) hgk
        have hpc : 2 * p ≤ cap := by have := HCAP.out; rw [hp, ← e2]; omega
        have hS := fun (W : World) (hW : Keeps w W) => same_halves p cap W hp1 (by omega) (HT.out.keeps hW) htl
        have HH := Lib.hid (fun (W : World) => halves16_calls (B := B) (off := off) p cap W hp1 hpc (by omega))
        have hss : stripS (g + 1) t = if sameL (t.take p) (t.drop p) then stripS g (t.take p) else (g + 1, t) := by rw [hp]; rfl
        obtain ⟨b, hb⟩ : ∃ b, b = sameL (t.take p) (t.drop p) := ⟨_, rfl⟩
        rw [← hb] at hS hss
        have HS := Lib.hid hS
        have HSS := Lib.hid hss
        have HPP := Lib.hid hp
        have HMO := Lib.hid hmono
        have hl2 : (t.take p).length = p := by rw [List.length_take]; omega
        have HL2 := Lib.hid hl2
        clear hS hss hb htl e2 hmono hp hl2
        cases b
        · go_wp2_with (first | (go_at_call 63; refine (HH.out _).mono ?_; rintro e1 w2 ⟨rfl, hk2⟩) | (go_at_call 36; refine (HS.out _ (by (repeat (first | with_reducible exact Keeps.refl _ | with_reducible assumption | with_reducible refine Keeps.alloc ?_ _ | with_reducible refine Keeps.drewN ?_ _ | with_reducible refine Keeps.drew ?_ | refine Keeps.setCell ?_ (by dsimp only; omega) _ | with_reducible refine Keeps.trans ?_ (by assumption))))).mono ?_; rintro e2 w3 ⟨rfl, hk3⟩) | fail)
          go_meet
          have ea : a = g + 1 := by rw [HA.out, ← HST.out, HSS.out]; rfl
          exact ⟨by rw [ea, HPP.out, Nat.pow_succ, Nat.mul_comm], by rw [HM.out, ea], by (repeat (first | with_reducible exact Keeps.refl _ | with_reducible assumption | with_reducible refine Keeps.alloc ?_ _ | with_reducible refine Keeps.drewN ?_ _ | with_reducible refine Keeps.drew ?_ | refine Keeps.setCell ?_ (by dsimp only; omega) _ | with_reducible refine Keeps.trans ?_ (by assumption)))⟩
        · go_wp2_with (first | (go_at_call 63; refine (HH.out _).mono ?_; rintro e1 w2 ⟨rfl, hk2⟩) | (go_at_call 36; refine (HS.out _ (by (repeat (first | with_reducible exact Keeps.refl _ | with_reducible assumption | with_reducible refine Keeps.alloc ?_ _ | with_reducible refine Keeps.drewN ?_ _ | with_reducible refine Keeps.drew ?_ | refine Keeps.setCell ?_ (by dsimp only; omega) _ | with_reducible refine Keeps.trans ?_ (by assumption))))).mono ?_; rintro e2 w3 ⟨rfl, hk3⟩) | fail)
          go_roundg g
          case rel => exact ⟨p, t.take p, rfl, HPP.out, by rw [HM.out]; congr 1; omega, by omega, by rw [HL2.out, HPP.out], HT.out.take p, by rw [← HST.out, HSS.out]; rfl, by (repeat (first | with_reducible exact Keeps.refl _ | with_reducible assumption | with_reducible refine Keeps.alloc ?_ _ | with_reducible refine Keeps.drewN ?_ _ | with_reducible refine Keeps.drew ?_ | refine Keeps.setCell ?_ (by dsimp only; omega) _ | with_reducible refine Keeps.trans ?_ (by assumption)))⟩
          case measure => omega
  case rest =>
    obtain ⟨rfl, rfl, hkc⟩ := hcut
    obtain ⟨t1, ht1⟩ : ∃ t1, t1 = (stripS k ts).2 := ⟨_, rfl⟩
    have ht := stripS_tab k ts H.out HL.out
    rw [← ht1, ← HA.out] at ht
    obtain ⟨c, hc⟩ : ∃ c, c = (stripZ a t1).1 := ⟨_, rfl⟩
    have hca : c ≤ a := by rw [hc]; exact stripZ_le a t1
    have hpa : 2 ^ a ≤ 2 ^ k := Nat.pow_le_pow_right (by decide) hak
    obtain ⟨m, hm⟩ : ∃ m, m = l + ((k - a : Nat) : Int) := ⟨_, rfl⟩
    have m0 : 0 ≤ m := by omega
    have m1 : m < 10 := by omega
    have ma : m + (a : Int) < 10 := by omega
    obtain ⟨Q, hQ⟩ : ∃ Q, Q = 2 ^ a := ⟨_, rfl⟩
    have hQc : Q ≤ cap := by have := HCAP.out; omega
    rw [← hm, ← hQ]
    have H1 := Lib.hid ht.1
    have HL1 := Lib.hid ht.2
    have HC := Lib.hid hc
    have HM := Lib.hid hm
    have HQ := Lib.hid hQ
    have HT1 := Lib.hid ht1
    have HKC := Lib.hid hkc
    clear ht hc hpa hm hQ ht1 hkc
    go_upto_block 2 with fail
    go_cut [0, 8, 9, 10] from 32 to 49 (fun s0 s8 s9 s10 wd => s0 = .slice (some ⟨B, off, none⟩) (2 ^ c) cap ∧ s8 = .int .i64 (m + (a - c : Nat)) ∧ Keeps w wd)
    case first =>
      go_wp2_with fail
      go_loopg [0, 8, 9, 10] a (fun gk s0 s8 s9 s10 wr => ∃ (q : Nat) (t : List Bool), s0 = .slice (some ⟨B, off, none⟩) q cap ∧ q = 2 ^ gk ∧ s8 = .int .i64 (m + (a - gk : Nat)) ∧ gk ≤ a ∧ t.length = 2 ^ gk ∧ TabAt w B off t ∧ stripZ gk t = stripZ a t1 ∧ Keeps w wr)
      case atStart => exact ⟨Q, t1, rfl, HQ.out, by simp, Nat.le_refl _, HL1.out, H1.out, rfl, by have := HKC.out; (repeat (first | with_reducible exact Keeps.refl _ | with_reducible assumption | with_reducible refine Keeps.alloc ?_ _ | with_reducible refine Keeps.drewN ?_ _ | with_reducible refine Keeps.drew ?_ | refine Keeps.setCell ?_ (by dsimp only; omega) _ | with_reducible refine Keeps.trans ?_ (by assumption)))⟩
      case round =>
        obtain ⟨q, t, rfl, hq, rfl, hgk, htl, hT, hst, hkr⟩ := hrel
        obtain ⟨z, hz⟩ : ∃ z, z = m + ((a - gk : Nat) : Int) := ⟨_, rfl⟩
        have q0 : 0 ≤ z := by omega
        have q1 : z ≤ 20 := by omega
        rw [← hz]
        have HZ := Lib.hid hz
        have HST := Lib.hid hst
        have HT := Lib.hid hT
        clear hz hst hT
        cases gk with
        | zero =>
          have hq1 : q = 1 := hq
          subst hq1
          clear htl hq
          go_wp2_with fail
          go_meet
          have ea : c = 0 := by rw [HC.out, ← HST.out]; rfl
          exact ⟨by rw [ea], by rw [HZ.out, ea], hkr⟩
        | succ g =>
          have e2 : 2 ^ (g + 1) = 2 * 2 ^ g := by rw [Nat.pow_succ]; omega
          obtain ⟨p, hp⟩ : ∃ p, p = 2 ^ g := ⟨_, rfl⟩
          have hp1 : 1 ≤ p := by rw [hp]; exact Nat.pow_pos (by decide)
          have hmono : 2 ^ (g + 1) ≤ 2 ^ a := Nat.pow_le_pow_right (by decide) hgk
          have hpc : 2 * p ≤ cap := by have := HQ.out; rw [hp, ← e2]; omega
          rw [e2, ← hp] at hq htl
          subst hq
          have hl2 : (t.take p).length = p := by rw [List.length_take]; omega
          have hl3 : (t.drop p).length = p := by rw [List.length_drop]; omega
          have hN := fun (W : World) (hW : Keeps w W) => none16_calls (cap - p) W ((HT.out.drop p).keeps hW) (by omega)
          rw [hl3] at hN
          have hF := fun (W : World) (hW : Keeps w W) => free16_calls g (t.take p) cap W (by omega) ((HT.out.take p).keeps hW) (by rw [hl2, hp]) (by rw [← hp]; omega) hcap2
          rw [← hp] at hF
          have HH := Lib.hid (fun (W : World) => halves16_calls (B := B) (off := off) p cap W hp1 hpc (by omega))
          have hss : stripZ (g + 1) t = if noneL (t.drop p) && !freeB g (t.take p) then stripZ g (t.take p) else (g + 1, t) := by rw [hp]; rfl
          obtain ⟨b, hb⟩ : ∃ b, b = noneL (t.drop p) := ⟨_, rfl⟩
          obtain ⟨b2, hb2⟩ : ∃ b2, b2 = freeB g (t.take p) := ⟨_, rfl⟩
          rw [← hb] at hN hss
          rw [← hb2] at hF hss
          have HN := Lib.hid hN
          have HF := Lib.hid hF
          have HSS := Lib.hid hss
          have HPP := Lib.hid hp
          have HL2 := Lib.hid hl2
          clear hN hF hss hb hb2 htl e2 hmono hp hl2 hl3
          cases b
          · go_wp2_with (first | (go_at_call 63; refine (HH.out _).mono ?_; rintro e1 w2 ⟨rfl, hk2⟩) | (go_at_call 62; refine (HN.out _ (by (repeat (first | with_reducible exact Keeps.refl _ | with_reducible assumption | with_reducible refine Keeps.alloc ?_ _ | with_reducible refine Keeps.drewN ?_ _ | with_reducible refine Keeps.drew ?_ | refine Keeps.setCell ?_ (by dsimp only; omega) _ | with_reducible refine Keeps.trans ?_ (by assumption))))).mono ?_; rintro e2 w3 ⟨rfl, rfl⟩) | fail)
            go_meet
            have ea : c = g + 1 := by rw [HC.out, ← HST.out, HSS.out]; rfl
            exact ⟨by rw [ea, HPP.out, Nat.pow_succ, Nat.mul_comm], by rw [HZ.out, ea], by (repeat (first | with_reducible exact Keeps.refl _ | with_reducible assumption | with_reducible refine Keeps.alloc ?_ _ | with_reducible refine Keeps.drewN ?_ _ | with_reducible refine Keeps.drew ?_ | refine Keeps.setCell ?_ (by dsimp only; omega) _ | with_reducible refine Keeps.trans ?_ (by assumption)))⟩
          · cases b2
            · go_wp2_with (first | (go_at_call 63; refine (HH.out _).mono ?_; rintro e1 w2 ⟨rfl, hk2⟩) | (go_at_call 62; refine (HN.out _ (by (repeat (first | with_reducible exact Keeps.refl _ | with_reducible assumption | with_reducible refine Keeps.alloc ?_ _ | with_reducible refine Keeps.drewN ?_ _ | with_reducible refine Keeps.drew ?_ | refine Keeps.setCell ?_ (by dsimp only; omega) _ | with_reducible refine Keeps.trans ?_ (by assumption))))).mono ?_; rintro e2 w3 ⟨rfl, rfl⟩) | (go_at_call 64; refine (HF.out _ (by (repeat (first | with_reducible exact Keeps.refl _ | with_reducible assumption | with_reducible refine Keeps.alloc ?_ _ | with_reducible refine Keeps.drewN ?_ _ | with_reducible refine Keeps.drew ?_ | refine Keeps.setCell ?_ (by dsimp only; omega) _ | with_reducible refine Keeps.trans ?_ (by assumption))))).mono ?_; rintro e4 w4 ⟨rfl, hk4⟩) | fail)
              go_roundg g
              case rel => exact ⟨p, t.take p, rfl, HPP.out, by rw [HZ.out]; congr 1; omega, by omega, by rw [HL2.out, HPP.out], HT.out.take p, by rw [← HST.out, HSS.out]; rfl, by (repeat (first | with_reducible exact Keeps.refl _ | with_reducible assumption | with_reducible refine Keeps.alloc ?_ _ | with_reducible refine Keeps.drewN ?_ _ | with_reducible refine Keeps.drew ?_ | refine Keeps.setCell ?_ (by dsimp only; omega) _ | with_reducible refine Keeps.trans ?_ (by assumption)))⟩
              case measure => omega
            · go_wp2_with (first | (go_at_call 63; refine (HH.out _).mono ?_; rintro e1 w2 ⟨rfl, hk2⟩) | (go_at_call 62; refine (HN.out _ (by (repeat (first | with_reducible exact Keeps.refl _ | with_reducible assumption | with_reducible refine Keeps.alloc ?_ _ | with_reducible refine Keeps.drewN ?_ _ | with_reducible refine Keeps.drew ?_ | refine Keeps.setCell ?_ (by dsimp only; omega) _ | with_reducible refine Keeps.trans ?_ (by assumption))))).mono ?_; rintro e2 w3 ⟨rfl, rfl⟩) | (go_at_call 64; refine (HF.out _ (by (repeat (first | with_reducible exact Keeps.refl _ | with_reducible assumption | with_reducible refine Keeps.alloc ?_ _ | with_reducible refine Keeps.drewN ?_ _ | with_reducible refine Keeps.drew ?_ | refine Keeps.setCell ?_ (by dsimp only; omega) _ | with_reducible refine Keeps.trans ?_ (by assumption))))).mono ?_; rintro e4 w4 ⟨rfl, hk4⟩) | fail)
              go_meet
              have ea : c = g + 1 := by rw [HC.out, ← HST.out, HSS.out]; rfl
              exact ⟨by rw [ea, HPP.out, Nat.pow_succ, Nat.mul_comm], by rw [HZ.out, ea], by (repeat (first | with_reducible exact Keeps.refl _ | with_reducible assumption | with_reducible refine Keeps.alloc ?_ _ | with_reducible refine Keeps.drewN ?_ _ | with_reducible refine Keeps.drew ?_ | refine Keeps.setCell ?_ (by dsimp only; omega) _ | with_reducible refine Keeps.trans ?_ (by assumption)))⟩
    case rest =>
      obtain ⟨rfl, rfl, hkd⟩ := hcut
      obtain ⟨t2, ht2⟩ : ∃ t2, t2 = (stripZ a t1).2 := ⟨_, rfl⟩
      have htb := stripZ_tab a t1 H1.out HL1.out
      rw [← ht2, ← HC.out] at htb
      have hZ : stripZ a t1 = (c, t2) := by rw [HC.out, ht2]
      obtain ⟨z, hz⟩ : ∃ z, z = m + ((a - c : Nat) : Int) := ⟨_, rfl⟩
      have z0 : 0 ≤ z := by omega
      have z1 : z < 10 := by omega
      have hzc : z + (c : Int) < 10 := by omega
      rw [← hz]
      have HTG := Lib.hid (fun W => tag_calls m W m0 m1)
      have HNM := Lib.hid (fun W => num_calls z W z0 z1)
      have g1 := digS_size m
      have g2 := digS_size z
      have hmono : 2 ^ c ≤ 2 ^ a := Nat.pow_le_pow_right (by decide) hca
      have hqc : 2 ^ c ≤ cap := by have := HQ.out; omega
      have HKD := Lib.hid hkd
      cases c with
      | zero =>
        have he := termT_eq0 (n := n) (l := l) HNN.out HA.out HT1.out hZ
        rw [← HM.out] at he
        have HE := Lib.hid he
        clear he htb hZ ht2 hz hzc hmono hqc hkd
        go_wp2_with (first | (go_at_call 65; refine (HTG.out _).mono ?_; rintro e1 w2 ⟨rfl, hk2⟩) | fail)
        go_ret
        exact ⟨by rw [HE.out]; rfl, by have := HKD.out; (repeat (first | with_reducible exact Keeps.refl _ | with_reducible assumption | with_reducible refine Keeps.alloc ?_ _ | with_reducible refine Keeps.drewN ?_ _ | with_reducible refine Keeps.drew ?_ | refine Keeps.setCell ?_ (by dsimp only; omega) _ | with_reducible refine Keeps.trans ?_ (by assumption)))⟩
      | succ c =>
        have he := termT_eq (n := n) (l := l) HNN.out HA.out HT1.out hZ
        rw [← HM.out, show l + ((k - (c + 1) : Nat) : Int) = z by have := HM.out; omega, show l + ((k - c : Nat) : Int) = z + 1 by have := HM.out; omega] at he
        have e2 : 2 ^ (c + 1) = 2 * 2 ^ c := by rw [Nat.pow_succ]; omega
        have hp1 : 1 ≤ 2 ^ c := Nat.pow_pos (by decide)
        rw [e2] at hqc htb ⊢
        have hT1 := fun (W : World) (hW : Keeps w W) => HIH.out c (by omega) off cap (t2.take (2 ^ c)) (z + 1) W ((htb.1.take _).keeps hW) (by rw [List.length_take]; omega) (by omega) hcap2 (by omega) (by omega)
        have hT2 := fun (W : World) (hW : Keeps w W) => HIH.out c (by omega) (off + 2 ^ c) (cap - 2 ^ c) (t2.drop (2 ^ c)) (z + 1) W ((htb.1.drop _).keeps hW) (by rw [List.length_drop]; omega) (by omega) (by omega) (by omega) (by omega)
        have s1 := termT_size n c (t2.take (2 ^ c)) (z + 1)
        have s2 := termT_size n c (t2.drop (2 ^ c)) (z + 1)
        have hpn : 2 ^ n ≤ 2 ^ 20 := Nat.pow_le_pow_right (by decide) hn20
        have e20 : (2 : Nat) ^ 20 = 1048576 := rfl
        obtain ⟨x, hx⟩ : ∃ x, x = termT n c (t2.take (2 ^ c)) (z + 1) := ⟨_, rfl⟩
        obtain ⟨y, hy⟩ : ∃ y, y = termT n c (t2.drop (2 ^ c)) (z + 1) := ⟨_, rfl⟩
        simp only [← hx, ← hy] at s1 s2 hT1 hT2 he
        have g3 : x.size ≤ 8388608 := by omega
        have g4 : y.size ≤ 8388608 := by omega
        obtain ⟨p, hp⟩ : ∃ p, p = 2 ^ c := ⟨_, rfl⟩
        rw [← hp] at hqc hp1 hT1 hT2 ⊢
        have HH := Lib.hid (fun (W : World) => halves16_calls (B := B) (off := off) p cap W hp1 hqc (by omega))
        have HE := Lib.hid he
        have HX1 := Lib.hid hT1
        have HX2 := Lib.hid hT2
        clear he htb hZ ht2 hz hzc hmono hqc hkd hx hy s1 s2 hpn e20 e2 hp hT1 hT2
        go_wp2_with (first | (go_at_call 63; have hkd := HKD.out; refine (HH.out _).mono ?_; rintro e1 w2 ⟨rfl, hk2⟩) | (go_at_call 65; refine (HTG.out _).mono ?_; rintro e3 w3 ⟨rfl, hk3⟩) | (go_at_call 66; refine (HNM.out _).mono ?_; rintro e4 w4 ⟨rfl, hk4⟩) | fail)
        refine (HX1.out _ (by have := HKD.out; (repeat (first | with_reducible exact Keeps.refl _ | with_reducible assumption | with_reducible refine Keeps.alloc ?_ _ | with_reducible refine Keeps.drewN ?_ _ | with_reducible refine Keeps.drew ?_ | refine Keeps.setCell ?_ (by dsimp only; omega) _ | with_reducible refine Keeps.trans ?_ (by assumption))))).mono ?_
        rintro e5 w5 ⟨rfl, hk5⟩
        go_wp2_with fail
        refine (HX2.out _ (by have := HKD.out; (repeat (first | with_reducible exact Keeps.refl _ | with_reducible assumption | with_reducible refine Keeps.alloc ?_ _ | with_reducible refine Keeps.drewN ?_ _ | with_reducible refine Keeps.drew ?_ | refine Keeps.setCell ?_ (by dsimp only; omega) _ | with_reducible refine Keeps.trans ?_ (by assumption))))).mono ?_
        rintro e6 w6 ⟨rfl, hk6⟩
        go_wp2_with fail
        go_ret
        exact ⟨by rw [HE.out]; rfl, by have := HKD.out; (repeat (first | with_reducible exact Keeps.refl _ | with_reducible assumption | with_reducible refine Keeps.alloc ?_ _ | with_reducible refine Keeps.drewN ?_ _ | with_reducible refine Keeps.drew ?_ | refine Keeps.setCell ?_ (by dsimp only; omega) _ | with_reducible refine Keeps.trans ?_ (by assumption)))⟩

theorem termT_none {B off : Nat} {ts : List Bool} (k cap : Nat) (l : Int) (w : World) (hk : k ≤ 9) (h : TabAt w B off ts) (hl : ts.length = 2 ^ k) (hcap : 2 ^ k ≤ cap) (hcap2 : cap ≤ 4096) (hnn : noneL ts = true) :
    Calls Try.prog 17 #[.slice (some ⟨B, off, none⟩) (2 ^ k) cap, .int .i64 l] w fun e w' => e = .returned (.string ⟨#[48]⟩) ∧ Keeps w w' := by
  have HNONE := Lib.hid (fun (W : World) (hW : Keeps w W) => by have := none16_calls cap W (h.keeps hW) (by rw [hl]; omega); rw [hl, hnn] at this; exact this)
  obtain ⟨P, hP⟩ : ∃ P, P = 2 ^ k := ⟨_, rfl⟩
  rw [← hP] at HNONE ⊢
  clear h hl hcap hP hnn
  go_enter Try.func17, Try.ntmps17
  go_wp2_with (first | (go_at_call 62; refine (HNONE.out _ (by (repeat (first | with_reducible exact Keeps.refl _ | with_reducible assumption | with_reducible refine Keeps.alloc ?_ _ | with_reducible refine Keeps.drewN ?_ _ | with_reducible refine Keeps.drew ?_ | refine Keeps.setCell ?_ (by dsimp only; omega) _ | with_reducible refine Keeps.trans ?_ (by assumption))))).mono ?_; rintro e w2 ⟨rfl, rfl⟩) | fail)
  go_ret
  exact ⟨rfl, by (repeat (first | with_reducible exact Keeps.refl _ | with_reducible assumption | with_reducible refine Keeps.alloc ?_ _ | with_reducible refine Keeps.drewN ?_ _ | with_reducible refine Keeps.drew ?_ | refine Keeps.setCell ?_ (by dsimp only; omega) _ | with_reducible refine Keeps.trans ?_ (by assumption)))⟩

theorem termT_calls {B : Nat} : ∀ (n : Nat), n ≤ 20 → ∀ (k : Nat), k < n → k ≤ 9 → ∀ (off cap : Nat) (ts : List Bool) (l : Int) (W : World), TabAt W B off ts → ts.length = 2 ^ k → 2 ^ k ≤ cap → cap ≤ 4096 → 0 ≤ l → l + (k : Nat) < 10 →
    Calls Try.prog 17 #[.slice (some ⟨B, off, none⟩) (2 ^ k) cap, .int .i64 l] W fun e w' => e = .returned (.string (termT n k ts l)) ∧ Keeps W w' := by
  intro n
  induction n with
  | zero => intro _ k hk; omega
  | succ n ih =>
    intro hn k hk hk9 off cap ts l W h hl hc hc2 hl0 hl9
    cases hb : noneL ts with
    | true =>
      have he : termT (n + 1) k ts l = ⟨#[48]⟩ := by
        show (if noneL ts = true then _ else _) = _
        rw [if_pos hb]
      rw [he]
      exact termT_none k cap l W hk9 h hl hc hc2 hb
    | false => exact termT_step k n cap l W hk9 h hl hc hc2 hl0 hl9 (by omega) hb (fun c hc3 off cap ts l W h hl q1 q2 q3 q4 => ih (by omega) c (by omega) (by omega) off cap ts l W h hl q1 q2 q3 q4)

end Go.Proofs.Ytacanmmkhbdmlaa
