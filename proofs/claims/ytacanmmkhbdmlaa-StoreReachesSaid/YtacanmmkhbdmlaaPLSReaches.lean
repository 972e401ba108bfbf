/-
  Proved: the statement StoreReaches, for every input.
-/
import Derived.Test.YtacanmmkhbdmlaaPIds06
import Derived.Test.YtacanmmkhbdmlaaPLawBase
import Derived.Test.YtacanmmkhbdmlaaPOpens2
import Derived.Test.YtacanmmkhbdmlaaPReachB
import Derived.Test.YtacanmmkhbdmlaaPSAlive
import Derived.Test.YtacanmmkhbdmlaaPTopR
import Derived.Test.YtacanmmkhbdmlaaRows
namespace Go.Proofs.Ytacanmmkhbdmlaa
set_option linter.unusedSimpArgs false
set_option linter.unusedVariables false
set_option maxHeartbeats 600000
open Go.ChangeShapes Go.WideShapes Go.ChangeAt Go.RowKit



set_option maxRecDepth 100000 in
theorem same06_row {w : World} {v v2 : Value} {ss ts : List Int} (h1 : IdRow w v ss) (h2 : IdRow w v2 ts) (hl1 : ss.length ≤ 1048576) (hl2 : ts.length ≤ 1048576) :
    Calls Try.prog 47 #[v, v2] w fun e w' => e = .returned (.bool (sameI ss ts)) ∧ Keeps w w' := by
  obtain ⟨a, cap, rfl, ha⟩ := h1
  obtain ⟨a2, cap2, rfl, ha2⟩ := h2
  by_cases hne : ss.length = ts.length
  · cases ss with
    | nil =>
      obtain rfl : ts = [] := List.length_eq_zero_iff.1 hne.symm
      show Calls _ _ #[.slice a 0 cap, .slice a2 0 cap2] w fun e w' => e = .returned (.bool true) ∧ Keeps w w'
      go_enter Try.func47, Try.ntmps47
      go_wp2
      go_loopg [5] 0 (fun gk s5 wr => s5 = .int .i64 0 ∧ Keeps w wr)
      case atStart => exact ⟨rfl, by (repeat (first | with_reducible exact Keeps.refl _ | with_reducible assumption | with_reducible refine Keeps.alloc ?_ _ | with_reducible refine Keeps.drewN ?_ _ | with_reducible refine Keeps.drew ?_ | refine Keeps.setCell ?_ (by dsimp only; omega) _ | with_reducible refine Keeps.trans ?_ (by assumption)))⟩
      case round =>
        obtain ⟨rfl, hk⟩ := hrel
        go_wp2
        go_ret
        exact ⟨rfl, hk⟩
    | cons x ss =>
      cases ts with
      | nil => simp at hne
      | cons y ts =>
        obtain ⟨g, rfl, _⟩ := ha 0 x rfl
        obtain ⟨g2, rfl, _⟩ := ha2 0 y rfl
        refine same06_calls cap cap2 w (fun i b hb => ?_) (fun i b hb => ?_) hl1 hl2
        · obtain ⟨g', e, hc⟩ := ha i b hb
          cases e
          rw [Nat.zero_add]
          exact hc
        · obtain ⟨g', e, hc⟩ := ha2 i b hb
          cases e
          rw [Nat.zero_add]
          exact hc
  · have hf := sameI_len hne
    obtain ⟨N, hN⟩ : ∃ N, N = ss.length := ⟨_, rfl⟩
    obtain ⟨K, hK⟩ : ∃ K, K = ts.length := ⟨_, rfl⟩
    rw [hf]
    rw [← hN, ← hK] at hne ⊢
    have gne : ((N : Int) != (K : Int)) = true := by simp; omega
    clear ha ha2 hl1 hl2 hN hK hf hne
    go_enter Try.func47, Try.ntmps47
    go_wp2
    go_ret
    exact ⟨rfl, by (repeat (first | with_reducible exact Keeps.refl _ | with_reducible assumption | with_reducible refine Keeps.alloc ?_ _ | with_reducible refine Keeps.drewN ?_ _ | with_reducible refine Keeps.drew ?_ | refine Keeps.setCell ?_ (by dsimp only; omega) _ | with_reducible refine Keeps.trans ?_ (by assumption)))⟩

theorem idsFrom_mem : ∀ (cs : List (Option Rec)) (i x : Int), x ∈ idsFrom i cs ↔ ∃ (k : Nat) (r : Rec), cs[k]? = some (some r) ∧ x = i + k := by
  intro cs
  induction cs with
  | nil => intro i x; simp [idsFrom]
  | cons c cs ih =>
    intro i x
    cases c with
    | none =>
      show x ∈ idsFrom (i + 1) cs ↔ _
      rw [ih]
      constructor
      · rintro ⟨k, r, h1, h2⟩; exact ⟨k + 1, r, by simpa using h1, by omega⟩
      · rintro ⟨k, r, h1, h2⟩
        cases k with
        | zero => simp at h1
        | succ k => exact ⟨k, r, by simpa using h1, by omega⟩
    | some q =>
      show x ∈ i :: idsFrom (i + 1) cs ↔ _
      rw [List.mem_cons, ih]
      constructor
      · rintro (h | ⟨k, r, h1, h2⟩)
        · exact ⟨0, q, rfl, by omega⟩
        · exact ⟨k + 1, r, by simpa using h1, by omega⟩
      · rintro ⟨k, r, h1, h2⟩
        cases k with
        | zero => left; omega
        | succ k => right; exact ⟨k, r, by simpa using h1, by omega⟩

theorem idsFrom_rising : ∀ (cs : List (Option Rec)) (i : Int), (idsFrom i cs).Pairwise (· < ·) := by
  intro cs
  induction cs with
  | nil => intro i; simp [idsFrom]
  | cons c cs ih =>
    intro i
    cases c with
    | none => exact ih (i + 1)
    | some q =>
      show (i :: idsFrom (i + 1) cs).Pairwise (· < ·)
      rw [List.pairwise_cons]
      refine ⟨fun x hx => ?_, ih (i + 1)⟩
      obtain ⟨k, r, _, h2⟩ := (idsFrom_mem cs (i + 1) x).1 hx
      omega

theorem idsL_mem {cs : List (Option Rec)} {x : Int} : x ∈ idsL cs ↔ look cs x ≠ none := by
  unfold idsL
  rw [idsFrom_mem]
  constructor
  · rintro ⟨k, r, h1, rfl⟩ h
    have := (look_get (cs := cs) (i := k) (r := r)).2 h1
    rw [show (2 : Int) + (k : Int) = (k : Int) + 2 by omega, this] at h
    cases h
  · intro h
    cases hl : look cs x with
    | none => exact absurd hl h
    | some r =>
      obtain ⟨h2, h3, h4⟩ := look_some hl
      exact ⟨(x - 2).toNat, r, h4, by omega⟩

/-- The ids of all nodes are what edges to all nodes reach. -/
theorem idsL_reach {F : Nat → Prop} {w : World} {mb : Nat} {M : St} {L : List (Int × Rec)} (h : RefRep F w mb M L) : reachL M.cs ((toEdges L).map Edge.to) = idsL M.cs := by
  refine rising_eq (reachL_rising _ _) (idsFrom_rising _ _) (fun x => ?_)
  rw [mem_reachL, idsL_mem]
  refine ⟨Reaches.some, fun hx => Reaches.root ?_ hx⟩
  cases hl : look M.cs x with
  | none => exact absurd hl hx
  | some r =>
    have := (h.mem x r).2 hl
    unfold toEdges
    rw [List.map_map, List.mem_map]
    exact ⟨(x, r), this, rfl⟩

theorem idsFrom_len : ∀ (cs : List (Option Rec)) (i : Int), (idsFrom i cs).length = (cs.filter Option.isSome).length := by
  intro cs
  induction cs with
  | nil => intro i; rfl
  | cons c cs ih =>
    intro i
    cases c with
    | none => exact ih (i + 1)
    | some q => show (idsFrom (i + 1) cs).length + 1 = _; rw [ih]; rfl

theorem nodup_len : ∀ {a b : List Int}, a.Nodup → (∀ x, x ∈ a → x ∈ b) → a.length ≤ b.length := by
  intro a
  induction a with
  | nil => intro b _ _; exact Nat.zero_le _
  | cons x a ih =>
    intro b hn hs
    have hx : x ∈ b := hs x (List.mem_cons_self)
    have hn2 := List.nodup_cons.1 hn
    have h1 := ih (b := b.erase x) hn2.2 (fun y hy => by
      have hne : y ≠ x := fun e => hn2.1 (e ▸ hy)
      exact (List.mem_erase_of_ne hne).2 (hs y (List.mem_cons_of_mem _ hy)))
    have h2 := List.length_erase_of_mem hx
    have h3 : 0 < b.length := List.length_pos_of_mem hx
    rw [List.length_cons]
    omega

theorem rising_nodup {a : List Int} (h : a.Pairwise (· < ·)) : a.Nodup := h.imp (fun hab e => by omega)

theorem reachL_few {F : Nat → Prop} {w : World} {sb : Nat} {M : St} (h : StoreRep F w sb M) (rs : List Int) : (reachL M.cs rs).length ≤ 1048576 := by
  have h1 : (reachL M.cs rs).length ≤ (idsL M.cs).length := nodup_len (rising_nodup (reachL_rising _ _)) (fun x hx => idsL_mem.2 (mem_reachL.1 hx).some)
  have h2 : (idsL M.cs).length ≤ M.cs.length := by
    unfold idsL
    rw [idsFrom_len]
    exact List.length_filter_le _ _
  obtain ⟨⟨ab, ib, ts, Fa, Fi, _, q2, _⟩, _⟩ := h
  have := q2.few
  omega

theorem idsL_len {F : Nat → Prop} {w : World} {mb : Nat} {M : St} {L : List (Int × Rec)} (h : RefRep F w mb M L) : ((idsL M.cs).length : Int) ≤ M.len := by
  have h1 : (idsL M.cs).length ≤ (L.map Prod.fst).length := nodup_len (rising_nodup (idsFrom_rising _ _)) (fun x hx => by
    cases hl : look M.cs x with
    | none => exact absurd hl (idsL_mem.1 hx)
    | some r => exact List.mem_map.2 ⟨(x, r), (h.mem x r).2 hl, rfl⟩)
  rw [List.length_map] at h1
  have := h.len
  omega

set_option maxRecDepth 100000 in
theorem storeReaches_out (n f l : Int) (a : Option Addr) (len cap : Nat) (v : Edge) (a2 : Option Addr) (len2 cap2 : Nat) (w : World) (h : 60 < len ∨ 20 < len2 ∨ n < 0 ∨ 16 < n) :
    Calls Try.prog 11 #[.int .i64 n, .slice a len cap, .int .u8 f, .agg #[.int .u8 v.tag, .int .u32 v.to], .int .i64 l, .slice a2 len2 cap2] w fun e w' => e = .returned (.bool true) ∧ Keeps w w' := by
  have H := Lib.hid h
  clear h
  go_enter Try.func11, Try.ntmps11
  go_wp2_with (first | (go_at_call 22; refine (s_alive _).mono ?_; rintro e w1 ⟨rfl, hb⟩; have y0 := hb.cell (a := ⟨w.heap.size, 0, none⟩) (v := .int .u8 v.tag) (by simp [go_sem]); have y1 := hb.cell (a := ⟨w.heap.size, 1, none⟩) (v := .int .u32 v.to) (by simp [go_sem]); have hk : Keeps w w1 := (by (repeat (first | with_reducible exact Keeps.refl _ | with_reducible assumption | with_reducible refine Keeps.alloc ?_ _ | with_reducible refine Keeps.drewN ?_ _ | with_reducible refine Keeps.drew ?_ | refine Keeps.setCell ?_ (by dsimp only; omega) _ | with_reducible refine Keeps.trans ?_ (by assumption)))); have hsz := hb.size; simp only [World.size_alloc] at hsz) | fail)
  all_goals first | (go_ret; exact ⟨rfl, by (repeat (first | with_reducible exact Keeps.refl _ | with_reducible assumption | with_reducible refine Keeps.alloc ?_ _ | with_reducible refine Keeps.drewN ?_ _ | with_reducible refine Keeps.drew ?_ | refine Keeps.setCell ?_ (by dsimp only; omega) _ | with_reducible refine Keeps.trans ?_ (by assumption)))⟩) | (exfalso; have := H.out; omega)

set_option maxRecDepth 100000 in
set_option maxHeartbeats 1000000 in
theorem storeReaches_in (n f l : Int) (a : Option Addr) (len cap : Nat) (rs : List Rec) (v : Edge) (a2 : Option Addr) (len2 cap2 : Nat) (es : List Edge) (w : World) (hv : v.ok) (hes : IsEdges w a2 len2 es) (hf : 0 ≤ f ∧ f ≤ 255) (h1 : len ≤ 60) (h4 : len2 ≤ 20) (h2 : 0 ≤ n) (h3 : n ≤ 16) (hrs : IsRecs w a len rs) :
    Calls Try.prog 11 #[.int .i64 n, .slice a len cap, .int .u8 f, .agg #[.int .u8 v.tag, .int .u32 v.to], .int .i64 l, .slice a2 len2 cap2] w fun e w' => e = .returned (.bool true) ∧ Keeps w w' := by
  have HR := Lib.hid hrs
  have HV := Lib.hid hv
  have HE := Lib.hid hes
  clear hrs hv hes
  go_enter Try.func11, Try.ntmps11
  go_wp2_with (first | (go_at_call 22; refine (s_alive _).mono ?_; rintro e w1 ⟨rfl, hb⟩; have y0 := hb.cell (a := ⟨w.heap.size, 0, none⟩) (v := .int .u8 v.tag) (by simp [go_sem]); have y1 := hb.cell (a := ⟨w.heap.size, 1, none⟩) (v := .int .u32 v.to) (by simp [go_sem]); have hk : Keeps w w1 := (by (repeat (first | with_reducible exact Keeps.refl _ | with_reducible assumption | with_reducible refine Keeps.alloc ?_ _ | with_reducible refine Keeps.drewN ?_ _ | with_reducible refine Keeps.drew ?_ | refine Keeps.setCell ?_ (by dsimp only; omega) _ | with_reducible refine Keeps.trans ?_ (by assumption)))); have hsz := hb.size; simp only [World.size_alloc] at hsz) | fail)
  refine (built' n 100 a len cap rs _ h2 h3 (by omega) (by omega) (by omega) (HR.out.keeps hk)).mono ?_
  rintro e w2 ⟨sb, mb, M, L, rfl, hB, hMn, hMr, hMl⟩
  subst hMn
  obtain ⟨⟨F, G, q1, q2, q3, q4, q5⟩, q6⟩ := hB
  have v0 := q6.cell y0
  have v1 := q6.cell y1
  have Q6 := Lib.hid q6
  have HK := Lib.hid hk
  have Q1 := Lib.hid q1
  have Q2 := Lib.hid q2
  have HML := Lib.hid hMl
  clear q1 q2 q3 q4 q5 q6 hk hMl
  have hreach : ∀ rs2, (reachL M.cs rs2).length ≤ 1048576 := fun rs2 => reachL_few Q1.out rs2
  have hidl := reachL_few Q1.out ((toEdges L).map Edge.to)
  rw [idsL_reach Q2.out] at hidl
  have hids60 : ((idsL M.cs).length : Int) ≤ 60 := by have := idsL_len Q2.out; have := HML.out; omega
  have HL1 := Lib.hid (fun (W : World) (hW : Keeps w2 W) => store_leads (Q1.out.keeps hW) f v l HV.out)
  have HL2 := Lib.hid (fun (W : World) (hW : Keeps w2 W) => ref_leads (Q2.out.keeps hW) f v l HV.out)
  have HT1 := Lib.hid (fun (W : World) (hW : Keeps w2 W) => store_top (Q1.out.keeps hW) v HV.out)
  have HT2 := Lib.hid (fun (W : World) (hW : Keeps w2 W) => ref_top (Q2.out.keeps hW) v HV.out)
  have hew : IsEdges w2 a2 len2 es := HE.out.keeps (HK.out.trans Q6.out)
  have HR1 := Lib.hid (fun (W : World) (hW : Keeps w2 W) => reach_calls (Q1.out.keeps hW) a2 len2 cap2 es (hew.keeps hW) (by omega))
  have HR2 := Lib.hid (fun (W : World) (hW : Keeps w2 W) => ref_reach (Q2.out.keeps hW) a2 len2 cap2 es (hew.keeps hW) (by omega))
  have HI := Lib.hid (fun (W : World) (hW : Keeps w2 W) => store_ids (Q1.out.keeps hW))
  have HA := Lib.hid (fun (W : World) (hW : Keeps w2 W) => all_calls (Q2.out.keeps hW))
  obtain ⟨b, hb'⟩ : ∃ b, b = M.leads f v l := ⟨_, rfl⟩
  obtain ⟨tt, htt⟩ : ∃ tt, tt = topI M v := ⟨_, rfl⟩
  rw [← hb'] at HL1 HL2
  rw [← htt] at HT1 HT2
  clear hb' htt hew
  have ett : (tt == tt) = true := by simp
  cases b
  all_goals
    go_wp2_with fail
    go_region_held3 (fun w' => w'.cell? ⟨w.heap.size, 0, none⟩ = some (.int .u8 v.tag) ∧ w'.cell? ⟨w.heap.size, 1, none⟩ = some (.int .u32 v.to)) (go_keep) ((first
      | (go_at_call 43; refine (HL1.out _ (by (repeat (first | with_reducible exact Keeps.refl _ | with_reducible assumption | with_reducible refine Keeps.alloc ?_ _ | with_reducible refine Keeps.drewN ?_ _ | with_reducible refine Keeps.drew ?_ | refine Keeps.setCell ?_ (by dsimp only; omega) _ | with_reducible refine Keeps.trans ?_ (by assumption))))).mono ?_; rintro e' w3 ⟨rfl, hk3⟩; have v0 := hk3.cell v0; have v1 := hk3.cell v1)
      | (go_at_call 44; refine (HL2.out _ (by (repeat (first | with_reducible exact Keeps.refl _ | with_reducible assumption | with_reducible refine Keeps.alloc ?_ _ | with_reducible refine Keeps.drewN ?_ _ | with_reducible refine Keeps.drew ?_ | refine Keeps.setCell ?_ (by dsimp only; omega) _ | with_reducible refine Keeps.trans ?_ (by assumption))))).mono ?_; rintro e' w4 ⟨rfl, hk4⟩; have v0 := hk4.cell v0; have v1 := hk4.cell v1)
      | (go_at_call 45; refine (HT1.out _ (by (repeat (first | with_reducible exact Keeps.refl _ | with_reducible assumption | with_reducible refine Keeps.alloc ?_ _ | with_reducible refine Keeps.drewN ?_ _ | with_reducible refine Keeps.drew ?_ | refine Keeps.setCell ?_ (by dsimp only; omega) _ | with_reducible refine Keeps.trans ?_ (by assumption))))).mono ?_; rintro e' w5 ⟨rfl, hk5⟩; have v0 := hk5.cell v0; have v1 := hk5.cell v1)
      | (go_at_call 46; refine (HT2.out _ (by (repeat (first | with_reducible exact Keeps.refl _ | with_reducible assumption | with_reducible refine Keeps.alloc ?_ _ | with_reducible refine Keeps.drewN ?_ _ | with_reducible refine Keeps.drew ?_ | refine Keeps.setCell ?_ (by dsimp only; omega) _ | with_reducible refine Keeps.trans ?_ (by assumption))))).mono ?_; rintro e' w6 ⟨rfl, hk6⟩; have v0 := hk6.cell v0; have v1 := hk6.cell v1)
      | (go_at_call 48; refine (HR1.out _ (by (repeat (first | with_reducible exact Keeps.refl _ | with_reducible assumption | with_reducible refine Keeps.alloc ?_ _ | with_reducible refine Keeps.drewN ?_ _ | with_reducible refine Keeps.drew ?_ | refine Keeps.setCell ?_ (by dsimp only; omega) _ | with_reducible refine Keeps.trans ?_ (by assumption))))).mono ?_; rintro e' w7 ⟨u1, rfl, r1, hk7⟩; have v0 := hk7.cell v0; have v1 := hk7.cell v1)
      | (go_at_call 49; first
          | (refine (ref_reach (Q2.out.keeps (show Keeps w2 _ by (repeat (first | with_reducible exact Keeps.refl _ | with_reducible assumption | with_reducible refine Keeps.alloc ?_ _ | with_reducible refine Keeps.drewN ?_ _ | with_reducible refine Keeps.drew ?_ | refine Keeps.setCell ?_ (by dsimp only; omega) _ | with_reducible refine Keeps.trans ?_ (by assumption))))) aa L.length acap (toEdges L) hall (by have := Q2.out.le; omega)).mono ?_; rintro e' w13 ⟨u4, rfl, r4, hk13⟩; have v0 := hk13.cell v0; have v1 := hk13.cell v1; rw [idsL_reach Q2.out] at r4; have r3' := (r3.keeps hk12).keeps hk13)
          | (refine (HR2.out _ (by (repeat (first | with_reducible exact Keeps.refl _ | with_reducible assumption | with_reducible refine Keeps.alloc ?_ _ | with_reducible refine Keeps.drewN ?_ _ | with_reducible refine Keeps.drew ?_ | refine Keeps.setCell ?_ (by dsimp only; omega) _ | with_reducible refine Keeps.trans ?_ (by assumption))))).mono ?_; rintro e' w8 ⟨u2, rfl, r2, hk8⟩; have v0 := hk8.cell v0; have v1 := hk8.cell v1; have r1' := r1.keeps hk8))
      | (go_at_call 47; first
          | (refine (same06_row r3' r4 hidl hidl).mono ?_; rintro e' w14 ⟨rfl, hk14⟩; have v0 := hk14.cell v0; have v1 := hk14.cell v1; rw [sameI_iff.2 rfl])
          | (refine (same06_row r1' r2 (hreach _) (hreach _)).mono ?_; rintro e' w9 ⟨rfl, hk9⟩; have v0 := hk9.cell v0; have v1 := hk9.cell v1; rw [sameI_iff.2 rfl]))
      | (go_at_call 51; refine (HI.out _ (by (repeat (first | with_reducible exact Keeps.refl _ | with_reducible assumption | with_reducible refine Keeps.alloc ?_ _ | with_reducible refine Keeps.drewN ?_ _ | with_reducible refine Keeps.drew ?_ | refine Keeps.setCell ?_ (by dsimp only; omega) _ | with_reducible refine Keeps.trans ?_ (by assumption))))).mono ?_; rintro e' w10 ⟨bx, rfl, hk10, hit⟩; have v0 := hk10.cell v0; have v1 := hk10.cell v1)
      | (go_at_call 50; refine (collect_ids 200 hit (Keeps.refl _) (by omega) (by omega)).mono ?_; rintro e' w11 ⟨u3, rfl, r3, hk11⟩; have v0 := hk11.cell v0; have v1 := hk11.cell v1)
      | (go_at_call 52; refine (HA.out _ (by (repeat (first | with_reducible exact Keeps.refl _ | with_reducible assumption | with_reducible refine Keeps.alloc ?_ _ | with_reducible refine Keeps.drewN ?_ _ | with_reducible refine Keeps.drew ?_ | refine Keeps.setCell ?_ (by dsimp only; omega) _ | with_reducible refine Keeps.trans ?_ (by assumption))))).mono ?_; rintro e' w12 ⟨aa, acap, rfl, hall, hk12⟩; have v0 := hk12.cell v0; have v1 := hk12.cell v1)))
    go_wp2
    go_ret
    exact ⟨rfl, by have hkk := HK.out; have hq6 := Q6.out; (repeat (first | with_reducible exact Keeps.refl _ | with_reducible assumption | with_reducible refine Keeps.alloc ?_ _ | with_reducible refine Keeps.drewN ?_ _ | with_reducible refine Keeps.drew ?_ | refine Keeps.setCell ?_ (by dsimp only; omega) _ | with_reducible refine Keeps.trans ?_ (by assumption)))⟩

theorem storeReaches_walk (n : Int) (a : Option Addr) (len cap : Nat) (rs : List Rec) (f : Int) (v : Edge) (l : Int) (a2 : Option Addr) (len2 cap2 : Nat) (es : List Edge) (w : World) (_ : (Lit.int .i64 n).wf = true) (hrs : IsRecs w a len rs) (hf : (Lit.int .u8 f).wf = true) (hv : v.ok) (_ : (Lit.int .i64 l).wf = true) (hes : IsEdges w a2 len2 es) :
    Calls Try.prog 11 #[.int .i64 n, .slice a len cap, .int .u8 f, .agg #[.int .u8 v.tag, .int .u32 v.to], .int .i64 l, .slice a2 len2 cap2] w fun e w' => e = .returned (.bool true) ∧ Keeps w w' := by
  by_cases h : 60 < len ∨ 20 < len2 ∨ n < 0 ∨ 16 < n
  · exact storeReaches_out n f l a len cap v a2 len2 cap2 w h
  · have hmin : IntKind.u8.min = 0 := rfl
    have hmax : IntKind.u8.max = 255 := rfl
    simp only [Lit.wf, Bool.and_eq_true, decide_eq_true_eq, hmin, hmax] at hf
    exact storeReaches_in n f l a len cap rs v a2 len2 cap2 es w hv hes hf (by omega) (by omega) (by omega) (by omega) hrs

set_option maxRecDepth 100000 in
theorem storeReaches_lifted (os : Os) (started : os.Started) (H : Type) (enc : TypeId × Value → H) :
    ReturnsInHanded {} Try.checked os 11 .any (Rows.storeReachesSpec.pre6 enc Try.prog Try.f11 Rows.storeReachesRow.domain false) (Rows.storeReachesSpec.post enc Try.prog Try.f11 false true false false) := by
  refine returnsInHanded_of_change (C := Try.checked) own started (by kernel_rfl) Try.func11
    (ChangeSpec.witness6 (enc := enc) (C := Try.checked) false ⟨#[], #[.int .i64 0, .slice none 0 0, .int .u8 0, .agg #[.int .u8 0, .int .u32 0], .int .i64 0, .slice none 0 0], []⟩ 12 (by kernel_rfl) (by kernel_rfl) (by kernel_rfl) (by kernel_rfl)) ?_
  intro W base args ds gs before hval0 hW hcnd _
  have hval : ∀ (j : Nat) t v, Try.f11.params[j]? = some t → args[j]? = some v → Value.okWide Try.prog W .any base t v := hval0
  have hW' := hW
  obtain ⟨p, q, hA0, hV, rfl, hfz, hnd⟩ := hW
  have hA : DataW.TrodAll enc Try.prog W 0 (fun _ => true) true Try.f11.params.toList args.toList ds p := hA0
  rw [Try.params11] at hA hval
  have hAk := hA
  obtain ⟨v0, vs0, d0, ds0, p0, q0, hargs, rfl, rfl, h0, r0⟩ := trodAll_cons hA
  obtain ⟨v1, vs1, d1, ds1, p1, q1, rfl, rfl, rfl, h1, r1⟩ := trodAll_cons r0
  obtain ⟨v2, vs2, d2, ds2, p2, q2, rfl, rfl, rfl, h2, r2⟩ := trodAll_cons r1
  obtain ⟨v3, vs3, d3, ds3, p3, q3, rfl, rfl, rfl, h3, r3⟩ := trodAll_cons r2
  obtain ⟨v4, vs4, d4, ds4, p4, q4, rfl, rfl, rfl, h4, r4⟩ := trodAll_cons r3
  obtain ⟨v5, vs5, d5, ds5, p5, q5, rfl, rfl, rfl, h5, r5⟩ := trodAll_cons r4
  obtain ⟨rfl, rfl, rfl⟩ := trodAll_nil r5
  obtain rfl : args = #[v0, v1, v2, v3, v4, v5] := by cases args; simp_all
  obtain ⟨rfl, rfl⟩ := trodVars_none hV
  obtain ⟨a0, rfl, rfl, rfl, w0⟩ := open_int Try.underlying3 (hval 0 3 v0 rfl rfl) h0
  obtain ⟨a1, len1, cap1, rfl⟩ := okWide_slice Try.underlying64 (hval 1 64 v1 rfl rfl)
  obtain ⟨rs1, w1⟩ := open_recs h1
  obtain ⟨a2, rfl, rfl, rfl, w2⟩ := open_int Try.underlying5 (hval 2 5 v2 rfl rfl) h2
  obtain ⟨a3, w3, rfl⟩ := open_edge (hval 3 35 v3 rfl rfl) h3
  obtain ⟨a4, rfl, rfl, rfl, w4⟩ := open_int Try.underlying3 (hval 4 3 v4 rfl rfl) h4
  obtain ⟨a5, len5, cap5, rfl⟩ := okWide_slice Try.underlying56 (hval 5 56 v5 rfl rfl)
  obtain ⟨rs5, w5⟩ := open_edges h5
  clear hA0 hval0
  refine (storeReaches_walk a0 a1 len1 cap1 rs1 a2 a3 a4 a5 len5 cap5 rs5 W w0 w1 w2 w3 w4 w5).mono fun e W' ⟨he, bel⟩ => ?_
  subst he
  exact ⟨_, rfl, _, _, _, [], _, [], hW', trodAll_mk1 (shut_bool Try.underlying4 _), trodAll_below laidOut bel _ _ _ _ (by kernel_rfl) hAk, rfl, Below.frame bel _, fun h => by cases h⟩

theorem storeReaches_over : Rows.storeReachesRow.holds Try.pinned (OpenSpec.ofChange Rows.storeReachesSpec) :=
  OpenClaim.holds_of_wide 11 Try.f11 rfl rfl rfl rfl rfl rfl rfl ⟨rfl, rfl, rfl, rfl, rfl⟩ rfl rfl rfl rfl rfl (by kernel_rfl) Try.func11 (by kernel_rfl)
    (of_decide_eq_true (by kernel_rfl)) (by unfold Func.isWrapper; first | (rw [if_pos (by decide +kernel)]; kernel_rfl) | (rw [if_neg (by decide +kernel)]; exact ⟨rfl, rfl⟩))
    (fun os started H enc _ => storeReaches_lifted os started H enc)

theorem storeReaches_proved : Rows.StoreReachesSaid := storeReaches_over

end Go.Proofs.Ytacanmmkhbdmlaa
