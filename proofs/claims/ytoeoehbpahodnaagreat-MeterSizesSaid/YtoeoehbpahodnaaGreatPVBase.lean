/-
  What View does, over the state (printed by wip/mk_vstore.py).
-/
import Derived.Test.YtoeoehbpahodnaaGreatPTMakeA
namespace Go.Proofs.YtoeoehbpahodnaaGreat
set_option linter.unusedSimpArgs false
set_option linter.unusedVariables false
set_option maxHeartbeats 600000
open Go.RowKit

theorem leads_some {M : St} {f : Int} {e : Edge} {l : Int} (h : M.leads f e l = true) {r : Rec} (hl : look M.cs e.to = some r) : r.form = f ∧ l ≤ r.top ∧ e.tag ≤ r.top := by
  have h2 := (look_some hl).1
  unfold St.leads at h
  rw [hl, decide_eq_false (show ¬ e.to < 2 by omega)] at h
  simp at h
  exact ⟨h.2.1.1, h.2.1.2, h.2.2⟩

def vOut (f l : Int) (e : Edge) : Edge × Edge × Int :=
  if f = 1 ∨ f = 3 then (e, e, 0) else if f = 5 then (⟨l + 1, e.to⟩, ⟨0, 0⟩, 0) else (e, ⟨0, 0⟩, 0)

def viewAct (M : St) (f : Int) (e : Edge) (l : Int) : (Edge × Edge × Int) ⊕ Rec :=
  if l < 0 ∨ M.n ≤ l then .inl (⟨0, 0⟩, ⟨0, 0⟩, 3)
  else if M.leads f e l = false then .inl (⟨0, 0⟩, ⟨0, 0⟩, 1)
  else if f = 5 ∧ (e.to = 0 ∨ l < e.tag) then .inl (e, e, 0)
  else match look M.cs e.to with
    | none => .inl (vOut f l e)
    | some r => if l < r.top then .inl (vOut f l e) else if (f = 3 ∨ f = 4) ∧ r.bot ≠ r.top then .inr ⟨r.form, r.top + 1, r.bot, r.lo, r.hi⟩ else .inl (r.lo, r.hi, 0)

def vLo (M : St) : (Edge × Edge × Int) ⊕ Rec → Edge | .inl x => x.1 | .inr r => foundE M 0 r
def vHi (M : St) (f : Int) : (Edge × Edge × Int) ⊕ Rec → Edge | .inl x => x.2.1 | .inr r => if M.findErr r = 0 then (if f = 4 then foundE M 0 r else r.hi) else ⟨0, 0⟩
def vErr (M : St) : (Edge × Edge × Int) ⊕ Rec → Int | .inl x => x.2.2 | .inr r => M.findErr r
def vSt (M : St) : (Edge × Edge × Int) ⊕ Rec → St | .inl _ => M | .inr r => M.findSt r
theorem foundE_ok {M : St} {t : Int} {r : Rec} (h : M.findErr r = 0) : foundE M t r = ⟨t, M.findId r⟩ := if_pos h

theorem cbdd_found0 {F : Nat → Prop} {w : World} {sb : Nat} {M : St} (h : StoreRep F w sb M) (r : Rec) (hr : r.ok) :
    Calls Tryz.prog 240 #[.pointer (some ⟨sb, 0, none⟩), .agg #[.int .u8 r.form, .int .u8 r.top, .int .u8 r.bot, .int .u8 r.lo.tag, .int .u32 r.lo.to, .int .u8 r.hi.tag, .int .u32 r.hi.to]] w fun e w' => e = .returned (.tuple #[.agg #[.int .u8 (foundE M 0 r).tag, .int .u32 (foundE M 0 r).to], .int .u8 (M.findErr r)]) ∧ Upd F w w' ∧ StoreRep (Grow F w w') w' sb (M.findSt r) := by
  have hf := fun (W : World) (hW : Keeps w W) => store_find (h.keeps hW) r hr
  by_cases he : M.findErr r = 0
  · have e1 : foundE M 0 r = ⟨0, M.findId r⟩ := if_pos he
    rw [e1, he]
    rw [he] at hf
    refine (cfound_ok sb r (M.findId r) w h.pos h.lt (fun W W1 => StoreRep (Grow F W W1) W1 sb (M.findSt r)) hf).mono ?_
    rintro e w' ⟨rfl, W, W1, h1, h2, h3, h4⟩
    exact ⟨rfl, h3.after h.lt h1 h2 h4⟩
  · have e1 : foundE M 0 r = ⟨0, 0⟩ := if_neg he
    rw [e1]
    refine (cfound_bad sb r (M.findId r) (M.findErr r) he w h.pos h.lt (fun W W1 => StoreRep (Grow F W W1) W1 sb (M.findSt r)) hf).mono ?_
    rintro e w' ⟨rfl, W, W1, h1, h2, h3, h4⟩
    exact ⟨rfl, h3.after h.lt h1 h2 h4⟩

theorem czdd_found0 {F : Nat → Prop} {w : World} {sb : Nat} {M : St} (h : StoreRep F w sb M) (r : Rec) (hr : r.ok) :
    Calls Tryz.prog 241 #[.pointer (some ⟨sb, 0, none⟩), .agg #[.int .u8 r.form, .int .u8 r.top, .int .u8 r.bot, .int .u8 r.lo.tag, .int .u32 r.lo.to, .int .u8 r.hi.tag, .int .u32 r.hi.to]] w fun e w' => e = .returned (.tuple #[.agg #[.int .u8 (foundE M 0 r).tag, .int .u32 (foundE M 0 r).to], .int .u8 (M.findErr r)]) ∧ Upd F w w' ∧ StoreRep (Grow F w w') w' sb (M.findSt r) := by
  have hf := fun (W : World) (hW : Keeps w W) => store_find (h.keeps hW) r hr
  by_cases he : M.findErr r = 0
  · have e1 : foundE M 0 r = ⟨0, M.findId r⟩ := if_pos he
    rw [e1, he]
    rw [he] at hf
    refine (zfound_ok sb r (M.findId r) w h.pos h.lt (fun W W1 => StoreRep (Grow F W W1) W1 sb (M.findSt r)) hf).mono ?_
    rintro e w' ⟨rfl, W, W1, h1, h2, h3, h4⟩
    exact ⟨rfl, h3.after h.lt h1 h2 h4⟩
  · have e1 : foundE M 0 r = ⟨0, 0⟩ := if_neg he
    rw [e1]
    refine (zfound_bad sb r (M.findId r) (M.findErr r) he w h.pos h.lt (fun W W1 => StoreRep (Grow F W W1) W1 sb (M.findSt r)) hf).mono ?_
    rintro e w' ⟨rfl, W, W1, h1, h2, h3, h4⟩
    exact ⟨rfl, h3.after h.lt h1 h2 h4⟩

end Go.Proofs.YtoeoehbpahodnaaGreat

namespace Go.Proofs.YtoeoehbpahodnaaGreat
set_option linter.unusedSimpArgs false
set_option linter.unusedVariables false
set_option maxHeartbeats 600000
open Go.RowKit

theorem wrap_pow {x : Int} (h : x < 62) : wrap64 (2 ^ x.toNat) = 2 ^ x.toNat := by
  have h2 : 2 ^ x.toNat ≤ 2 ^ 61 := Nat.pow_le_pow_right (by decide) (by omega)
  have h1 : (2 : Int) ^ x.toNat = ((2 ^ x.toNat : Nat) : Int) := by push_cast; rfl
  have h0 : (0 : Int) < 2 ^ x.toNat := Int.pow_pos (by decide)
  unfold wrap64
  omega

def permB (ps : List Int) : Bool := decide (ps.length ≤ 16) && ps.all (fun x => decide (0 ≤ x ∧ x < (ps.length : Int))) && decide ps.Nodup

theorem permB_iff {ps : List Int} : permB ps = true ↔ (ps.length ≤ 16 ∧ (∀ x ∈ ps, 0 ≤ x ∧ x < (ps.length : Int)) ∧ ps.Nodup) := by
  unfold permB
  simp [List.all_eq_true, and_assoc]

theorem take_snoc {α : Type} {l : List α} {i : Nat} {x : α} (h : l[i]? = some x) : l.take (i + 1) = l.take i ++ [x] := by
  obtain ⟨hi, rfl⟩ := List.getElem?_eq_some_iff.1 h
  rw [List.take_succ_eq_append_getElem hi]

set_option maxRecDepth 100000 in
theorem permRight_calls (a : Option Addr) (cap : Nat) (ps : List Int) (w : World) (h : IntsAt w a ps) (hl : ps.length ≤ 1048576) :
    Calls Tryz.prog 137 #[.slice a ps.length cap] w fun e w' => e = .returned (.bool (permB ps)) ∧ w = w' := by
  obtain ⟨N, hN⟩ : ∃ N, N = ps.length := ⟨_, rfl⟩
  rw [← hN] at hl ⊢
  have H := Lib.hid h
  have HN := Lib.hid hN
  clear h hN
  by_cases h16 : 16 < N
  · have hf : permB ps = false := by
      cases hb : permB ps with
      | false => rfl
      | true => have := (permB_iff.1 hb).1; have := HN.out; omega
    rw [hf]
    clear hf
    go_enter Tryz.func137, Tryz.ntmps137
    go_wp2
    go_ret
    exact ⟨rfl, rfl⟩
  · go_enter Tryz.func137, Tryz.ntmps137
    go_wp2
    go_loopg [3, 5, 11] N (fun gk s3 s5 s11 wr => ∃ (m d : Nat), s3 = .int .i64 (m : Int) ∧ s11 = .int .i64 (d : Int) ∧ d + gk = N ∧ MaskOf m (ps.take d) ∧ (∀ x ∈ ps.take d, 0 ≤ x ∧ x < (N : Int)) ∧ (ps.take d).Nodup ∧ w = wr)
    case atStart => exact ⟨0, 0, rfl, rfl, by omega, by simpa using MaskOf.nil, by simp, by simp, rfl⟩
    case round =>
      obtain ⟨m, d, rfl, rfl, hd, hm, hr, hnd, rfl⟩ := hrel
      by_cases hlt : d < N
      · obtain ⟨x, hx⟩ : ∃ b, ps[d]? = some b := ⟨_, List.getElem?_eq_getElem (by rw [← HN.out]; exact hlt)⟩
        obtain ⟨b, off, rfl, hc⟩ := H.out d x hx
        have hmem : x ∈ ps := List.mem_of_getElem? hx
        have HX := Lib.hid hx
        clear hx
        by_cases hx0 : x < 0
        · have hf : permB ps = false := by
            cases hb : permB ps with
            | false => rfl
            | true => have := ((permB_iff.1 hb).2.1 x hmem).1; omega
          have HFF := Lib.hid hf
          clear hf hmem hm hr hnd
          go_wp2_with fail
          go_ret
          exact ⟨by rw [HFF.out]; rfl, rfl⟩
        · by_cases hx1 : (N : Int) ≤ x
          · have hf : permB ps = false := by
              cases hb : permB ps with
              | false => rfl
              | true => have := ((permB_iff.1 hb).2.1 x hmem).2; have := HN.out; omega
            have HFF := Lib.hid hf
            clear hf hmem hm hr hnd
            go_wp2_with fail
            go_ret
            exact ⟨by rw [HFF.out]; rfl, rfl⟩
          · have hbit := hm.bit (x := x) (by omega)
            by_cases hin : x ∈ ps.take d
            · have hf : permB ps = false := by
                cases hb : permB ps with
                | false => rfl
                | true =>
                  have := (permB_iff.1 hb).2.2
                  rw [← List.take_append_drop d ps, List.nodup_append] at this
                  refine absurd rfl (this.2.2 x hin x ?_)
                  rw [List.drop_eq_getElem_cons (by rw [← HN.out]; exact hlt)]
                  have := HX.out
                  rw [List.getElem?_eq_getElem (by rw [← HN.out]; exact hlt)] at this
                  rw [Option.some.inj this]
                  simp
              have HFF := Lib.hid hf
              rw [decide_eq_true hin] at hbit
              clear hf hmem hm hr hnd hin
              have hx2 : x ≤ 63 := by omega
              go_wp2_with fail
              go_ret
              exact ⟨by rw [HFF.out]; rfl, rfl⟩
            · rw [decide_eq_false hin] at hbit
              have hm2 := hm.add (x := x) (by omega) (by omega)
              have hor := or_i64 m (2 ^ x.toNat) (by have := hm.1; omega) (Nat.lt_of_lt_of_le (Nat.pow_lt_pow_right (n := 16) (by decide) (by omega)) (by decide))
              have htk := take_snoc HX.out
              rw [← htk] at hm2
              have hr2 : ∀ y ∈ ps.take (d + 1), 0 ≤ y ∧ y < (N : Int) := fun y hy => by
                rw [htk] at hy
                rcases List.mem_append.1 hy with hy | hy
                · exact hr y hy
                · rw [List.mem_singleton] at hy; subst hy; omega
              have hnd2 : (ps.take (d + 1)).Nodup := by
                rw [htk, List.nodup_append]
                exact ⟨hnd, by simp, fun y hy z hz e => by rw [List.mem_singleton] at hz; subst e; subst hz; exact hin hy⟩
              have HM2 := Lib.hid hm2
              have HR2 := Lib.hid hr2
              have HND2 := Lib.hid hnd2
              push_cast at hor
              have hwp := wrap_pow (x := x) (by omega)
              clear hm hr hnd hm2 hr2 hnd2 hmem hin htk
              have hx2 : x ≤ 63 := by omega
              go_wp2_with fail
              go_roundg (gk - 1)
              case rel => exact ⟨m ||| 2 ^ x.toNat, d + 1, rfl, by simp, by omega, HM2.out, HR2.out, HND2.out, rfl⟩
              case measure => omega
      · have hd2 : d = N := by omega
        have ht : permB ps = true := by
          have e1 : ps.take d = ps := List.take_of_length_le (by rw [← HN.out]; omega)
          rw [e1] at hr hnd
          exact permB_iff.2 ⟨by have := HN.out; omega, fun x hx => by have := hr x hx; have := HN.out; omega, hnd⟩
        have HFF := Lib.hid ht
        clear hm hr hnd ht
        go_wp2_with fail
        go_ret
        exact ⟨by rw [HFF.out]; rfl, rfl⟩

end Go.Proofs.YtoeoehbpahodnaaGreat
