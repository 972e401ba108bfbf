/-
  A range over an iterator: what an iterator owes, and the law of the statement. No program in sight.
-/
import Derived.Test.YtiacdpoldgfpbaaPForeA
import Derived.RangeFuncStops
import Derived.RangeFuncCalls
import Derived.RangeFuncLeaves
namespace Go.Proofs.Ytiacdpoldgfpbaa
set_option linter.unusedSimpArgs false
set_option linter.unusedVariables false
set_option maxHeartbeats 600000
open Go.RowKit

/-- An invariant that minds no change of c blocks from B on, nor new memory. -/
def Abide (B c : Nat) (J : List Int → World → Prop) : Prop := ∀ p A A', J p A → Upd (fun k => B ≤ k ∧ k < B + c) A A' → J p A'

/-- What an iterator over ids owes, in worlds of which St holds: it makes c blocks of its own, ahead of the first round; each round goes on, or says that it is enough. -/
def Iter (P : Program) (g : Nat) (lb : Array Value) (xs : List Int) (c : Nat) (St : World → Prop) : Prop :=
  ∀ (l : Nat) (J Jx : List Int → World → Prop) (W : World), (∀ p A, J p A → St A) → Abide W.heap.size c J → Abide W.heap.size c Jx →
    (∀ m pre x A, J pre A → pre ++ [x] <+: xs → W.heap.size + c ≤ A.heap.size → YieldAt Fence.wide m P l #[.int .u32 x] A fun e A' =>
      (∀ k, W.heap.size ≤ k → k < W.heap.size + c → A'.heap[k]? = A.heap[k]?) ∧ A.heap.size ≤ A'.heap.size ∧ ((e = .returned (.bool true) ∧ J (pre ++ [x]) A') ∨ (e = .returned (.bool false) ∧ Jx (pre ++ [x]) A'))) →
    J [] W → ∀ n, CallsIn Fence.wide n P g (#[.func (.yield l) #[] #[]] ++ lb) W fun e W' => (∃ v, e = .returned v) ∧ (J xs W' ∨ ∃ pre, pre <+: xs ∧ Jx pre W')

theorem Iter.later {P : Program} {g : Nat} {lb : Array Value} {xs : List Int} {c : Nat} {St St' : World → Prop} (h : Iter P g lb xs c St) (hs : ∀ A, St' A → St A) : Iter P g lb xs c St' :=
  fun l J Jx W hJ h1 h2 hr h0 n => h l J Jx W (fun p A hp => hs A (hJ p A hp)) h1 h2 hr h0 n

/-- How a round's body may end. -/
def bodyEnd (D c : Nat) (I Ix : List Int → World → Prop) (ys : List Int) (W : World) : Exit → Act → World → Prop
  | .normal, _, W' => (∀ k, D ≤ k → k < D + 2 + c → W'.heap[k]? = W.heap[k]?) ∧ W.heap.size ≤ W'.heap.size ∧ I ys W'
  | .ret, _, W' => (∀ k, D ≤ k → k < D + 2 + c → W'.heap[k]? = W.heap[k]?) ∧ W.heap.size ≤ W'.heap.size ∧ Ix ys W'
  | .exit _, _, _ => False
  | .goto _, _, _ => False
  | .panic _, _, _ => False
  | .outgrown, _, _ => False

theorem Upd.putObj {F : Nat → Prop} {w W : World} (h : Upd F w W) {k : Nat} (hk : F k ∨ w.heap.size ≤ k) (o : Obj) : Upd F w (W.putObj k o) :=
  ⟨h.os, h.tape, h.output, by rw [World.putObj_size]; exact h.size, fun j hj hn => by
    have hne : j ≠ k := fun e => by subst e; rcases hk with hk | hk; exact hn hk; omega
    rw [World.putObj_heap_other hne]
    exact h.block j hj hn⟩

set_option maxHeartbeats 1000000 in
/-- The statement 'for x := range seq { .. }'. -/
theorem wpIn_range {P : Program} {g : Operand} {ps : Tmp} {assign body : Code} {Q : Exit → Act → World → Prop} {a : Act} {w : World} {n : Nat}
    {gf : Nat} {lb : Array Value} (hg : a.eval g = .func (.func gf) #[] lb) (eg : ∀ args w, (callFunc gf args).run P w = .ok (.enter gf args) w)
    {xs : List Int} {c : Nat} {St : World → Prop} (hit : Iter P gf lb xs c St)
    (I Ix : List Int → World → Prop) (hK : ∀ p A, I p A → St A) (hI : Abide w.heap.size (c + 2) I) (hIx : Abide w.heap.size (c + 2) Ix) (h0 : I [] w) (a₁ : Int → Act)
    (hassign : ∀ (l m : Nat) (x : Int) (W : World) (K : Act → World → Prop), K (a₁ x) W →
      assign.wpIn (Fence.wide.inRound l) m P (Exit.then K (fun _ _ _ => False)) { tmps := ((#[ps] : Array Tmp).zip #[Value.int .u32 x]).foldl (fun t (p, v) => t.setIfInBounds p v) a.tmps, defers := [] } W)
    (hbody : ∀ (l m : Nat) (pre : List Int) (x : Int) (W : World), I pre W → pre ++ [x] <+: xs → w.heap.size + 2 + c ≤ W.heap.size →
      body.wpIn (Fence.wide.inRound l) m P (bodyEnd w.heap.size c I Ix (pre ++ [x]) W) (a₁ x) W)
    (hdone : ∀ (W : World), I xs W → W.heap[w.heap.size]? = some (.deferred (some [])) → Q .normal { a with defers := { target := .collected w.heap.size, args := #[] } :: a.defers } W)
    (hstop : ∀ (pre : List Int) (W : World), pre <+: xs → Ix pre W → W.heap[w.heap.size]? = some (.deferred (some [])) → Code.ret.wpIn Fence.wide n P Q { a with defers := { target := .collected w.heap.size, args := #[] } :: a.defers } W) :
    (Code.rangeFunc g #[ps] assign body).wpIn Fence.wide n P Q a w := by
  refine wpIn_rangeFunc ?_
  intro fn hfn
  obtain ⟨rec, hrec⟩ : ∃ rec : LoopState → Option Code → Loop, rec = fun st pe => { state := st, pending := pe, fn, tmps := a.tmps, params := #[ps], assign, body, defers := w.heap.size } := ⟨_, rfl⟩
  obtain ⟨W1, hW1⟩ : ∃ W1, (w.alloc (.deferred (some []))).alloc (.loop (rec .ready none)) = W1 := ⟨_, rfl⟩
  have hsz : W1.heap.size = w.heap.size + 2 := by rw [← hW1]; simp
  have hL1 : W1.heap[w.heap.size + 1]? = some (.loop (rec .ready none)) := by
    rw [← hW1]; have := World.alloc_heap_new (w.alloc (.deferred (some []))) (.loop (rec .ready none)); rwa [World.size_alloc] at this
  have hK1 : W1.heap[w.heap.size]? = some (.deferred (some [])) := by
    rw [← hW1]; exact (Below.heap_alloc _ _ _ (by simp)).trans (World.alloc_heap_new w _)
  have hu1 : Upd (fun k => w.heap.size ≤ k ∧ k < w.heap.size + (c + 2)) w W1 := by
    rw [← hW1]; exact ((Upd.refl _ w).alloc _).alloc _
  refine ⟨w.heap.size + 1, [{ target := .collected w.heap.size, args := #[] }], W1, { target := .fn (.func gf) lb, args := #[.func (.yield (w.heap.size + 1)) #[] #[]] }, W1, gf,
    #[.func (.yield (w.heap.size + 1)) #[] #[]] ++ lb, W1, ?_, ?_, ?_, ?_, (fun h => by cases h), ?_⟩
  · rw [← hW1, hrec]; exact run_enterLoop_outer _ _ _ _ _
  · simp only [resolve, hg]
    simp [go_sem]
  · intro f' hf'; trivial
  · simp [invoke, go_sem, eg]
  · have hsub : ∀ {A A' : World}, Upd (fun k => W1.heap.size ≤ k ∧ k < W1.heap.size + c) A A' → Upd (fun k => w.heap.size ≤ k ∧ k < w.heap.size + (c + 2)) A A' := fun hu => hu.mono (fun k _ hk => ⟨by omega, by omega⟩)
    have hfar : ∀ {A A' : World} {k : Nat} {o : Obj}, Upd (fun k => W1.heap.size ≤ k ∧ k < W1.heap.size + c) A A' → k < W1.heap.size → A.heap[k]? = some o → A'.heap[k]? = some o := fun {A A' k o} hu hk ho =>
      (hu.block k (Array.getElem?_eq_some_iff.1 ho).1 (fun hh => by omega)).trans ho
    refine (hit (w.heap.size + 1)
      (fun p W => I p W ∧ W.heap[w.heap.size + 1]? = some (.loop (rec .ready none)) ∧ W.heap[w.heap.size]? = some (.deferred (some [])))
      (fun p W => Ix p W ∧ W.heap[w.heap.size + 1]? = some (.loop (rec .done (some .ret))) ∧ W.heap[w.heap.size]? = some (.deferred (some [])))
      W1 (fun p A hp => hK p A hp.1)
      (fun p A A' hp hu => ⟨hI p A A' hp.1 (hsub hu), hfar hu (by omega) hp.2.1, hfar hu (by omega) hp.2.2⟩)
      (fun p A A' hp hu => ⟨hIx p A A' hp.1 (hsub hu), hfar hu (by omega) hp.2.1, hfar hu (by omega) hp.2.2⟩)
      ?_ ⟨hI _ _ _ h0 hu1, hL1, hK1⟩ (n - 1)).mono ?_
    · rintro m pre x A ⟨hi, hl, hk⟩ hpre hlen
      have hlt : w.heap.size + 1 < A.heap.size := (Array.getElem?_eq_some_iff.1 hl).1
      have hy := run_yield (P := P) (args := #[.int .u32 x]) hl (by rw [hrec]; rfl)
      rw [hrec] at hy
      refine ⟨fn, _, assign, body, hy, roundIn_of_wpIn trivial ?_⟩
      refine hassign _ _ x A _ ?_
      refine ⟨_, run_beginRound hl (by rw [hrec]), ?_⟩
      have hl2 : (A.putObj (w.heap.size + 1) (.loop { rec .ready none with state := .busy })).heap[w.heap.size + 1]? = some (.loop { rec .ready none with state := .busy }) := World.putObj_heap_same hlt
      have hk2 : (A.putObj (w.heap.size + 1) (.loop { rec .ready none with state := .busy })).heap[w.heap.size]? = some (.deferred (some [])) := (World.putObj_heap_other (by omega)).trans hk
      have hu2 : Upd (fun k => w.heap.size ≤ k ∧ k < w.heap.size + (c + 2)) A (A.putObj (w.heap.size + 1) (.loop { rec .ready none with state := .busy })) := (Upd.refl _ A).putObj (.inl ⟨by omega, by omega⟩) _
      refine wpIn_mono (hbody _ _ pre x _ (hI _ _ _ hi hu2) hpre (by rw [World.putObj_size]; omega)) ?_
      rintro e a3 W3 hp
      have fin : ∀ (jump : Option Code), (∀ k, w.heap.size ≤ k → k < w.heap.size + 2 + c → W3.heap[k]? = (A.putObj (w.heap.size + 1) (.loop { rec .ready none with state := .busy })).heap[k]?) →
          (Instr.endRound (w.heap.size + 1) jump).run P W3 = .ok (.bool jump.isNone) (W3.putObj (w.heap.size + 1) (.loop (rec (if jump.isNone then .ready else .done) jump))) ∧
          (W3.putObj (w.heap.size + 1) (.loop (rec (if jump.isNone then .ready else .done) jump))).heap[w.heap.size + 1]? = some (.loop (rec (if jump.isNone then .ready else .done) jump)) ∧
          (W3.putObj (w.heap.size + 1) (.loop (rec (if jump.isNone then .ready else .done) jump))).heap[w.heap.size]? = some (.deferred (some [])) ∧
          (∀ k, W1.heap.size ≤ k → k < W1.heap.size + c → (W3.putObj (w.heap.size + 1) (.loop (rec (if jump.isNone then .ready else .done) jump))).heap[k]? = A.heap[k]?) := fun jump hs => by
        have hl3 := (hs _ (by omega) (by omega)).trans hl2
        have hk3 := (hs _ (by omega) (by omega)).trans hk2
        have := run_endRound (P := P) jump hl3
        rw [hrec] at this ⊢
        refine ⟨this, World.putObj_heap_same (Array.getElem?_eq_some_iff.1 hl3).1, (World.putObj_heap_other (by omega)).trans hk3, fun k h1 h2 => ?_⟩
        rw [World.putObj_heap_other (by omega), hs k (by omega) (by omega), World.putObj_heap_other (by omega)]
      have hu3 : ∀ o, Upd (fun k => w.heap.size ≤ k ∧ k < w.heap.size + (c + 2)) W3 (W3.putObj (w.heap.size + 1) o) := fun o => (Upd.refl _ W3).putObj (.inl ⟨by omega, by omega⟩) o
      cases e with
      | normal =>
        obtain ⟨hs, hz3, hi3⟩ := hp
        obtain ⟨hr, hl4, hk4, ho4⟩ := fin none hs
        rw [World.putObj_size] at hz3
        exact ⟨_, _, hr, ho4, by rw [World.putObj_size]; exact hz3, .inl ⟨rfl, hI _ _ _ hi3 (hu3 _), hl4, hk4⟩⟩
      | ret =>
        obtain ⟨hs, hz3, hi3⟩ := hp
        obtain ⟨hr, hl4, hk4, ho4⟩ := fin (some .ret) hs
        rw [World.putObj_size] at hz3
        exact ⟨_, _, hr, ho4, by rw [World.putObj_size]; exact hz3, .inr ⟨rfl, hIx _ _ _ hi3 (hu3 _), hl4, hk4⟩⟩
      | exit id => exact hp.elim
      | goto t => exact hp.elim
      | panic ch => exact hp.elim
      | outgrown => exact hp.elim
    · rintro e W2 ⟨⟨v, rfl⟩, (⟨hi, hl, hk⟩ | ⟨pre, hpre, hi, hl, hk⟩)⟩
      · have hu3 : ∀ o, Upd (fun k => w.heap.size ≤ k ∧ k < w.heap.size + (c + 2)) W2 (W2.putObj (w.heap.size + 1) o) := fun o => (Upd.refl _ W2).putObj (.inl ⟨by omega, by omega⟩) o
        exact ⟨none, _, by have := run_endLoop (P := P) hl (by rw [hrec]; simp); rw [hrec] at this; exact this, hdone _ (hI _ _ _ hi (hu3 _)) ((World.putObj_heap_other (by omega)).trans hk)⟩
      · have hu3 : ∀ o, Upd (fun k => w.heap.size ≤ k ∧ k < w.heap.size + (c + 2)) W2 (W2.putObj (w.heap.size + 1) o) := fun o => (Upd.refl _ W2).putObj (.inl ⟨by omega, by omega⟩) o
        exact ⟨some .ret, _, by have := run_endLoop (P := P) hl (by rw [hrec]; simp); rw [hrec] at this; exact this, hstop pre _ hpre (hIx _ _ _ hi (hu3 _)) ((World.putObj_heap_other (by omega)).trans hk)⟩

end Go.Proofs.Ytiacdpoldgfpbaa
