/-
  What a call may have done to memory (Keeps, Upd), and how records, cells and slots lie in a row.
-/
import Derived.Test.YtimffidpbcflaaaPlain
import Derived.WalkKit
import Derived.WalkSmall
import Derived.Deep.Draws
import Derived.Deep.RegionLaw
namespace Go.Proofs.Ytimffidpbcflaaa
set_option linter.unusedSimpArgs false
set_option linter.unusedVariables false
set_option maxHeartbeats 600000
open Go.RowKit

/-- Nothing that was there has turned. -/
def Keeps (w w' : World) : Prop := Below w.heap.size w w'

theorem Keeps.refl (w : World) : Keeps w w := Below.refl _ _

theorem Keeps.trans {a b c : World} (h : Keeps a b) (k : Keeps b c) : Keeps a c := Below.trans h (Below.mono k h.size)

theorem Keeps.alloc {a b : World} (h : Keeps a b) (o : Obj) : Keeps a (b.alloc o) := Below.alloc h h.size o

theorem Keeps.drew {a b : World} (h : Keeps a b) : Keeps a b.drew := Below.drew h

theorem Keeps.drewN {a b : World} (h : Keeps a b) (n : Nat) : Keeps a (b.drewN n) := below_drewN h n

theorem Keeps.setCell {a b : World} (h : Keeps a b) {p : Addr} (hp : a.heap.size ≤ p.block) (u : Value) : Keeps a (b.setCell p u) := Below.setCell h hp u

theorem Keeps.cells {W w1 : World} (hb : Keeps W w1) : (∀ b o, b < W.heap.size → w1.cell? ⟨b, o, none⟩ = W.cell? ⟨b, o, none⟩) ∧ (∀ b o, b < W.heap.size → w1.frozen? ⟨b, o, none⟩ = W.frozen? ⟨b, o, none⟩) :=
  ⟨fun b o h => Below.cell hb (p := ⟨b, o, none⟩) h, fun b o h => Below.frozen hb (p := ⟨b, o, none⟩) h⟩

theorem lt_of_cell {w : World} {a : Addr} {v : Value} (h : w.cell? a = some v) : a.block < w.heap.size := World.block_lt_of_cell? w a h

theorem Keeps.cell {w w' : World} (h : Keeps w w') {a : Addr} {v : Value} (hc : w.cell? a = some v) : w'.cell? a = some v := (Below.cell h (lt_of_cell hc)).trans hc

theorem lt_of_heap {w : World} {k : Nat} {o : Obj} (h : w.heap[k]? = some o) : k < w.heap.size := lt_of_block h

theorem Keeps.heap {w w' : World} (h : Keeps w w') {k : Nat} {o : Obj} (hc : w.heap[k]? = some o) : w'.heap[k]? = some o := (h.block k (lt_of_heap hc)).trans hc

/-- Only blocks of F, and new ones, may have turned. -/
structure Upd (F : Nat → Prop) (w w' : World) : Prop where
  os : w'.os = w.os
  tape : w'.tape = w.tape
  output : w'.output = w.output
  size : w.heap.size ≤ w'.heap.size
  block : ∀ k, k < w.heap.size → ¬ F k → w'.heap[k]? = w.heap[k]?

theorem Keeps.upd {w w' : World} (h : Keeps w w') (F : Nat → Prop) : Upd F w w' := ⟨h.os, h.tape, h.output, h.size, fun k hk _ => h.block k hk⟩

theorem Upd.refl (F : Nat → Prop) (w : World) : Upd F w w := ⟨rfl, rfl, rfl, Nat.le_refl _, fun _ _ _ => rfl⟩

/-- The blocks of F, and those that came between w and w'. -/
def Grow (F : Nat → Prop) (w w' : World) : Nat → Prop := fun k => F k ∨ (w.heap.size ≤ k ∧ k < w'.heap.size)

theorem Upd.trans {F : Nat → Prop} {a b c : World} (h : Upd F a b) (k : Upd (Grow F a b) b c) : Upd F a c :=
  ⟨k.os.trans h.os, k.tape.trans h.tape, k.output.trans h.output, Nat.le_trans h.size k.size, fun i hi hf =>
    (k.block i (Nat.lt_of_lt_of_le hi h.size) (fun hg => by rcases hg with hg | hg; exact hf hg; omega)).trans (h.block i hi hf)⟩

theorem Upd.trans' {F : Nat → Prop} {a b c : World} (h : Upd F a b) (k : Upd F b c) : Upd F a c :=
  ⟨k.os.trans h.os, k.tape.trans h.tape, k.output.trans h.output, Nat.le_trans h.size k.size, fun i hi hf =>
    (k.block i (Nat.lt_of_lt_of_le hi h.size) hf).trans (h.block i hi hf)⟩

theorem Upd.mono {F G : Nat → Prop} {w w' : World} (h : Upd F w w') (hfg : ∀ k, k < w.heap.size → F k → G k) : Upd G w w' :=
  ⟨h.os, h.tape, h.output, h.size, fun k hk hg => h.block k hk (fun hf => hg (hfg k hk hf))⟩

theorem Upd.keeps {F : Nat → Prop} {w w' : World} (h : Upd F w w') (hf : ∀ k, k < w.heap.size → ¬ F k) : Keeps w w' :=
  ⟨h.os, h.tape, h.output, h.size, fun k hk => h.block k hk (hf k hk)⟩

theorem Upd.setCell {F : Nat → Prop} {a b : World} (h : Upd F a b) {p : Addr} (hp : F p.block ∨ a.heap.size ≤ p.block) (u : Value) : Upd F a (b.setCell p u) :=
  ⟨h.os, h.tape, h.output, by simpa [World.setCell] using h.size, fun k hk hf => by
    rw [Below.heap_setCell _ _ _ _ (fun e => by subst e; rcases hp with hp | hp; exact hf hp; omega)]; exact h.block k hk hf⟩

theorem Upd.alloc {F : Nat → Prop} {a b : World} (h : Upd F a b) (o : Obj) : Upd F a (b.alloc o) :=
  ⟨h.os, h.tape, h.output, by have := h.size; simp; omega, fun k hk hf => by
    rw [Below.heap_alloc _ _ _ (Nat.lt_of_lt_of_le hk h.size)]; exact h.block k hk hf⟩

theorem Upd.drewN {F : Nat → Prop} {a b : World} (h : Upd F a b) (n : Nat) : Upd F a (b.drewN n) := ⟨h.os, h.tape, h.output, h.size, h.block⟩

theorem Upd.drew {F : Nat → Prop} {a b : World} (h : Upd F a b) : Upd F a b.drew := ⟨h.os, h.tape, h.output, h.size, h.block⟩

theorem Upd.grown {F : Nat → Prop} {a b c : World} {row : Option Nat} (h : Upd F a b) (hg : b.grownBy c row) (hr : ∀ k, row = some k → F k ∨ a.heap.size ≤ k) : Upd F a c :=
  ⟨hg.os.trans h.os, hg.tape.trans h.tape, hg.output.trans h.output, Nat.le_trans h.size hg.size, fun k hk hf =>
    (hg.block k (Nat.lt_of_lt_of_le hk h.size) (fun e => by rcases hr k e.symm with hr | hr; exact hf hr; omega)).trans (h.block k hk hf)⟩

theorem Upd.cells {F : Nat → Prop} {W w1 : World} (h : Upd F W w1) {b : Nat} (hb : b < W.heap.size) (hf : ¬ F b) : w1.heap[b]? = W.heap[b]? := h.block b hb hf

/-- What the call owns stays owned while none of its blocks turns. -/
theorem Upd.owns {F : Nat → Prop} {w W : World} (h : Upd F w W) {base : Nat} {e : TypeId} {size : Nat} {v : Value} {n : Nat} {xs : List Value}
    (hf : ∀ k, v.ownBlock = some k → ¬ F k) (hown : w.ownsRow base e size v n xs) : W.ownsRow base e size v n xs := by
  refine ⟨hown.1, ?_⟩
  rcases hown.2 with hn | ⟨g, cap, cur, rfl, hb, hgg, rest⟩
  · exact .inl hn
  · refine .inr ⟨g, cap, cur, rfl, hb, ?_, rest⟩
    rw [h.block g (lt_of_heap hgg) (hf g rfl)]
    exact hgg

theorem Keeps.owns {w W : World} (h : Keeps w W) {base : Nat} {e : TypeId} {size : Nat} {v : Value} {n : Nat} {xs : List Value}
    (hown : w.ownsRow base e size v n xs) : W.ownsRow base e size v n xs := Upd.owns (h.upd (fun _ => False)) (fun _ _ h => h) hown

/-- A slice of the call's own with an element is no nil. -/
theorem owns_shape {w : World} {base : Nat} {e : TypeId} {size : Nat} {v : Value} {n : Nat} {xs : List Value} (hown : w.ownsRow base e size v n xs) (hn : 0 < n) :
    ∃ g cap, v = .slice (some ⟨g, 0, none⟩) n cap := by
  rcases hown.2 with ⟨_, h⟩ | ⟨g, cap, _, h, _⟩
  · omega
  · exact ⟨g, cap, h⟩

theorem owns_slice {w : World} {base : Nat} {e : TypeId} {size : Nat} {v : Value} {n : Nat} {xs : List Value} (hown : w.ownsRow base e size v n xs) :
    ∃ a cap, v = .slice a n cap ∧ (n ≠ 0 → ∃ g, a = some ⟨g, 0, none⟩) := by
  rcases hown.2 with ⟨h, hn⟩ | ⟨g, cap, _, h, _⟩
  · exact ⟨none, 0, by rw [h, hn], fun h => (h hn).elim⟩
  · exact ⟨_, cap, h, fun _ => ⟨g, rfl⟩⟩

theorem grown_cell {w w' : World} {row : Option Nat} (hg : w.grownBy w' row) {b o : Nat} {v : Value} (hne : row ≠ some b) (h : w.cell? ⟨b, o, none⟩ = some v) : w'.cell? ⟨b, o, none⟩ = some v :=
  hg.cell h (fun e => hne e.symm)

theorem grown_frozen {w w' : World} {row : Option Nat} (hg : w.grownBy w' row) {b o : Nat} (hb : b < w.heap.size) (hne : row ≠ some b) (h : w.frozen? ⟨b, o, none⟩ = false) : w'.frozen? ⟨b, o, none⟩ = false :=
  (World.frozen?_of_block (a := ⟨b, o, none⟩) (hg.block b hb (fun e => hne e.symm))).trans h

theorem cell_new (w : World) (cs : Array Value) (t : TypeId) (g : Nat) (hg : g = w.heap.size) : ∀ j u, cs.toList[j]? = some u → (w.alloc (.cells cs t)).cell? ((⟨g, 0, none⟩ : Addr).add j) = some u := by
  subst hg
  intro j u h
  have hadd : (⟨w.heap.size, 0, none⟩ : Addr).add j = ⟨w.heap.size, j, none⟩ := by unfold Addr.add; split <;> simp_all
  rw [hadd, World.cell?_alloc_new]
  simpa using h

theorem cell_newd (w : World) (cs : Array Value) (t : TypeId) (g : Nat) (hg : g = w.heap.size) : ∀ j u, cs.toList[j]? = some u → (w.alloc (.cells cs t)).drew.cell? ((⟨g, 0, none⟩ : Addr).add j) = some u := cell_new w cs t g hg

theorem World.size_drewN (w : World) (n : Nat) : (w.drewN n).heap.size = w.heap.size := rfl

theorem World.size_drew (w : World) : w.drew.heap.size = w.heap.size := rfl

theorem World.size_setCell (w : World) (a : Addr) (v : Value) : (w.setCell a v).heap.size = w.heap.size := by simp [World.setCell]

theorem World.size_alloc (w : World) (o : Obj) : (w.alloc o).heap.size = w.heap.size + 1 := by simp

/-- append onto a slice of the call's own: where the new one lies. -/
theorem run_append_fresh {P : Program} (w : World) (base : Nat) (t ty e : TypeId) (i : TypeInfo) (z : Value) (size bytes : Nat) (ht : P.underlying t = some (.slice e)) (hi : P.info? e = some i) (hz : i.zero = some z)
    (hsize : i.size = size) (hby : i.bytes = bytes) (hzs : z.cells.size = size) (hsz : 0 < size)
    (v : Value) (n : Nat) (xs : List Value) (hown : w.ownsRow base e size v n xs)
    (a : Addr) (m c : Nat) (news : List Value) (hl : news.length = m * size) (hnews : ∀ j u, news[j]? = some u → w.cell? (a.add j) = some u) (h1 : ∀ u ∈ news, u.oneCell' = true)
    (h63 : n + m ≤ maxLen) (hbytes : (n + m) * bytes ≤ 140737488355328) (hbase : base ≤ w.heap.size) :
    ∃ v' w', (Builtin.append_ #[t, t] ty #[v, .slice (some a) m c]).run P w = .ok v' w' ∧ w'.ownsRow base e size v' (n + m) (xs ++ news) ∧ w.grownBy w' v.ownBlock ∧
      (∀ k, v'.ownBlock = some k → v.ownBlock = some k ∨ w.heap.size ≤ k) := by
  obtain ⟨v', w', hr, h2, h3, h4⟩ := run_append_own (P := P) w base t ty e i z size bytes ht hi hz hsize hby hzs hsz v n xs hown a m c news hl hnews h1 h63 hbytes hbase
  refine ⟨v', w', hr, h2, h3, ?_⟩
  subst hsize
  subst hby
  have hsmall : n + m ≤ 9223372036854775807 := by simp only [maxLen] at h63; omega
  rcases hown.2 with ⟨rfl, rfl⟩ | ⟨g, cap, cur, rfl, hbg, hg, hnc, hcm, hcs, htake⟩
  · by_cases hm : m = 0
    · rw [h4.2 ⟨rfl, hm⟩]
      intro k hk
      simp [Value.ownBlock] at hk
    · have hr2 := run_append_nil (P := P) w t ty e i z ht hi hz a m c news hl hnews (by omega) (by omega) (by have hb := hbytes; simp only [Nat.zero_add] at hb; omega)
      rw [hr2] at hr
      simp only [Result.ok.injEq] at hr
      rw [← hr.1]
      intro k hk
      simp [Value.ownBlock] at hk
      right; omega
  · by_cases hroom : n + m ≤ cap
    · have hfit : n * i.size + news.length ≤ cur.size := by rw [hl, hcs, ← Nat.add_mul]; exact Nat.mul_le_mul_right _ hroom
      have hr2 := run_append_room (P := P) w t ty e i ht hi g n cap cur hg a m c news hl hnews h1 hroom hfit
      rw [hr2] at hr
      simp only [Result.ok.injEq] at hr
      rw [← hr.1]
      intro k hk
      exact .inl hk
    · have holds : ∀ j u, xs[j]? = some u → w.cell? ((⟨g, 0, none⟩ : Addr).add j) = some u := hown.cells (g := g) rfl
      have hr2 := run_append_grow (P := P) w t ty e i z ht hi hz ⟨g, 0, none⟩ n cap xs hown.1 holds a m c news hl hnews (by omega) (by omega) (growslice_fits (by omega) hbytes)
      rw [hr2] at hr
      simp only [Result.ok.injEq] at hr
      rw [← hr.1]
      intro k hk
      simp [Value.ownBlock] at hk
      right; omega

theorem wp_append_fresh {P : Program} {o : Oper} {a : Act} {w : World} {K : Act → World → Prop} {Q : Exit → Act → World → Prop} (s x : Operand) (t : TypeId)
    (ho : o.op = .call { callee := .builtin .append, args := #[s, x], argTypes := #[t, t] })
    (base : Nat) (e : TypeId) (i : TypeInfo) (z : Value) (size bytes : Nat) (ht : P.underlying t = some (.slice e)) (hi : P.info? e = some i) (hz : i.zero = some z)
    (hsize : i.size = size) (hby : i.bytes = bytes) (hzs : z.cells.size = size) (hsz : 0 < size)
    (v : Value) (n : Nat) (xs : List Value) (hs : a.eval s = v) (hown : w.ownsRow base e size v n xs)
    (ad : Addr) (m c : Nat) (news : List Value) (hx : a.eval x = .slice (some ad) m c) (hl : news.length = m * size) (hnews : ∀ j u, news[j]? = some u → w.cell? (ad.add j) = some u) (h1 : ∀ u ∈ news, u.oneCell' = true)
    (h63 : n + m ≤ maxLen) (hbytes : (n + m) * bytes ≤ 140737488355328) (hbase : base ≤ w.heap.size)
    (h : ∀ v' w', w'.ownsRow base e size v' (n + m) (xs ++ news) → w.grownBy w' v.ownBlock → (∀ k, v'.ownBlock = some k → v.ownBlock = some k ∨ w.heap.size ≤ k) → K (a.put o.dst v') w') : o.wp P a w K Q := by
  obtain ⟨v', w', hr, h2, h3, h4⟩ := run_append_fresh (P := P) w base t o.type e i z size bytes ht hi hz hsize hby hzs hsz v n xs hown ad m c news hl hnews h1 h63 hbytes hbase
  unfold Oper.wp execOp
  simp only [ho, resolve, invoke, builtin, Sem.run_bind, Sem.run_pure, Result.andThen_ok, List.map_toArray, List.map_cons, List.map_nil, hs, hx, hr]
  exact h v' w' h2 h3 h4

/-- append onto a slice of the call's own, as one step of a region that draws. -/
theorem step_append_own {P : Program} {ops : Array Oper} {o : Oper} {a : Act} {w : World} {K : Act → World → Prop} {Q : Exit → Act → World → Prop} {E : Prop}
    (hg : o.guard = none) (s x : Operand) (t : TypeId) (ho : o.op = Op.call { callee := Callee.builtin Builtin.append, args := #[s, x], argTypes := #[t, t] })
    (base : Nat) (e : TypeId) (i : TypeInfo) (z : Value) (size bytes : Nat) (ht : P.underlying t = some (.slice e)) (hi : P.info? e = some i) (hz : i.zero = some z)
    (hsize : i.size = size) (hby : i.bytes = bytes) (hzs : z.cells.size = size) (hsz : 0 < size)
    (v : Value) (n : Nat) (xs : List Value) (hs : a.eval s = v) (hown : w.ownsRow base e size v n xs)
    (ad : Addr) (m c : Nat) (news : List Value) (hx : a.eval x = .slice (some ad) m c) (hl : news.length = m * size) (hnews : ∀ j u, news[j]? = some u → w.cell? (ad.add j) = some u) (h1 : ∀ u ∈ news, u.oneCell' = true)
    (h63 : n + m ≤ maxLen) (hbytes : (n + m) * bytes ≤ 140737488355328) (hbase : base ≤ w.heap.size)
    (h : ∀ v' w', w'.ownsRow base e size v' (n + m) (xs ++ news) → w.grownBy w' v.ownBlock → (∀ k, v'.ownBlock = some k → v.ownBlock = some k ∨ w.heap.size ≤ k) → K (a.put o.dst v') w') :
    if Region.wanted o (yielded ops a.tmps) = true then Oper.wp P o a w K Q else E := by
  have hw : Region.wanted o (yielded ops a.tmps) = true := by simp [Region.wanted, hg]
  rw [if_pos hw]
  exact wp_append_fresh s x t ho base e i z size bytes ht hi hz hsize hby hzs hsz v n xs hs hown ad m c news hx hl hnews h1 h63 hbytes hbase h

theorem wpList_append_fresh {P : Program} {ops : Array Oper} {rest : List Oper} {o : Oper} {a : Act} {w : World} {Q : Exit → Act → World → Prop} (hgd : o.guard = none) (s x : Operand) (t : TypeId)
    (ho : o.op = .call { callee := .builtin .append, args := #[s, x], argTypes := #[t, t] })
    (base : Nat) (e : TypeId) (i : TypeInfo) (z : Value) (size bytes : Nat) (ht : P.underlying t = some (.slice e)) (hi : P.info? e = some i) (hz : i.zero = some z)
    (hsize : i.size = size) (hby : i.bytes = bytes) (hzs : z.cells.size = size) (hsz : 0 < size)
    (v : Value) (n : Nat) (xs : List Value) (hs : a.eval s = v) (hown : w.ownsRow base e size v n xs)
    (ad : Addr) (m c : Nat) (news : List Value) (hx : a.eval x = .slice (some ad) m c) (hl : news.length = m * size) (hnews : ∀ j u, news[j]? = some u → w.cell? (ad.add j) = some u) (h1 : ∀ u ∈ news, u.oneCell' = true)
    (h63 : n + m ≤ maxLen) (hbytes : (n + m) * bytes ≤ 140737488355328) (hbase : base ≤ w.heap.size)
    (h : ∀ v' w', w'.ownsRow base e size v' (n + m) (xs ++ news) → w.grownBy w' v.ownBlock → (∀ k, v'.ownBlock = some k → v.ownBlock = some k ∨ w.heap.size ≤ k) → wpList P ops Q rest (a.put o.dst v') w') : wpList P ops Q (o :: rest) a w :=
  wpList_plain hgd fun _ hK => wp_append_fresh s x t ho base e i z size bytes ht hi hz hsize hby hzs hsz v n xs hs hown ad m c news hx hl hnews h1 h63 hbytes hbase fun v' w' h2 h3 h4 => hK _ _ (h v' w' h2 h3 h4)

/-- The seven values of a record. -/
def recVals (r : Rec) : List Value :=
  [.int .u8 r.form, .int .u8 r.top, .int .u8 r.bot, .int .u8 r.lo.tag, .int .u32 r.lo.to, .int .u8 r.hi.tag, .int .u32 r.hi.to]

/-- An arena's cell: nine values. -/
def cellVals : Option Rec → List Value
  | some r => recVals r ++ [.bool true, .int .i64 0]
  | none => recVals Rec.zero ++ [.bool false, .int .i64 0]

/-- An index's slot: nine values. -/
def slotVals : Option (Rec × Int) → List Value
  | some (r, id) => recVals r ++ [.int .u32 id, .bool true]
  | none => recVals Rec.zero ++ [.int .u32 0, .bool false]

/-- What is told of a record that may be none. -/
def grec : Option Rec → Rec
  | some r => r
  | none => Rec.zero

def gsome : Option Rec → Bool
  | some _ => true
  | none => false

theorem cellVals_length (c : Option Rec) : (cellVals c).length = 9 := by cases c <;> rfl

theorem slotVals_length (c : Option (Rec × Int)) : (slotVals c).length = 9 := by cases c <;> rfl

theorem flat_length {α : Type} (f : α → List Value) (k : Nat) (hf : ∀ x, (f x).length = k) (l : List α) : (l.flatMap f).length = l.length * k := by
  induction l with
  | nil => simp
  | cons x l ih => simp [List.flatMap_cons, ih, hf, Nat.succ_mul, Nat.add_comm]

theorem flat_get {α : Type} (f : α → List Value) (k : Nat) (hf : ∀ x, (f x).length = k) (l : List α) (i j : Nat) (x : α) (hx : l[i]? = some x) (hj : j < k) :
    (l.flatMap f)[i * k + j]? = (f x)[j]? := by
  induction l generalizing i with
  | nil => simp at hx
  | cons y l ih =>
    cases i with
    | zero =>
      simp at hx
      subst hx
      simp only [List.flatMap_cons, Nat.zero_mul, Nat.zero_add]
      rw [List.getElem?_append_left (by rw [hf]; exact hj)]
    | succ i =>
      simp only [List.flatMap_cons]
      rw [List.getElem?_append_right (by rw [hf, Nat.succ_mul]; omega), hf]
      rw [show (i + 1) * k + j - k = i * k + j by rw [Nat.succ_mul]; omega]
      exact ih i (by simpa using hx)

/-- Row number i's nine values, written one by one. -/
def set9 (w : World) (b o : Nat) : List Value → World
  | [] => w
  | v :: vs => set9 (w.setCell ⟨b, o, none⟩ v) b (o + 1) vs

theorem set9_upd (b : Nat) (vs : List Value) : ∀ (o : Nat) (w : World), Upd (fun k => k = b) w (set9 w b o vs) := by
  induction vs with
  | nil => exact fun _ w => Upd.refl _ w
  | cons v vs ih => exact fun o w => Upd.trans' (Upd.setCell (F := fun k => k = b) (p := ⟨b, o, none⟩) (Upd.refl _ w) (Or.inl rfl) v) (ih (o + 1) _)

theorem set9_heap (b : Nat) (vs : List Value) : ∀ (o : Nat) (w : World) (cur : Array Value) (t : TypeId), w.heap[b]? = some (.cells cur t (0, 0)) →
    ∃ cur', (set9 w b o vs).heap[b]? = some (.cells cur' t (0, 0)) ∧ cur'.size = cur.size ∧ (∀ j, (j < o ∨ o + vs.length ≤ j) → cur'[j]? = cur[j]?) ∧ (∀ j, j < vs.length → o + vs.length ≤ cur.size → cur'[o + j]? = vs[j]?) := by
  induction vs with
  | nil => exact fun o w cur t h => ⟨cur, h, rfl, fun _ _ => rfl, fun j hj => by simp at hj⟩
  | cons v vs ih =>
    intro o w cur t h
    obtain ⟨cur', h1, h2, h3, h4⟩ := ih (o + 1) _ _ t (heap_setCell_same w b o cur t v h)
    refine ⟨cur', h1, by simpa using h2, fun j hj => ?_, fun j hj hs => ?_⟩
    · rw [h3 j (by simp only [List.length_cons] at hj; omega)]
      rw [Array.getElem?_setIfInBounds, if_neg (by simp only [List.length_cons] at hj; omega)]
    · cases j with
      | zero =>
        rw [Nat.add_zero, h3 o (by omega), Array.getElem?_setIfInBounds, if_pos rfl, if_pos (by simp only [List.length_cons] at hs; omega)]
        rfl
      | succ j =>
        have := h4 j (by simp only [List.length_cons] at hj; omega) (by simp only [List.length_cons] at hs; simp; omega)
        rw [show o + (j + 1) = o + 1 + j by omega, this]
        rfl

/-- A row of nine-valued things: one of them is set. -/
theorem set9_owns {α : Type} (f : α → List Value) (hf : ∀ x, (f x).length = 9) {w : World} {base : Nat} {e : TypeId} {b n cap : Nat} {l : List α} (hn : l.length = n)
    (h : w.ownsRow base e 9 (.slice (some ⟨b, 0, none⟩) n cap) n (l.flatMap f)) (i : Nat) (hi : i < n) (x : α) :
    (set9 w b (i * 9) (f x)).ownsRow base e 9 (.slice (some ⟨b, 0, none⟩) n cap) n ((l.set i x).flatMap f) := by
  subst hn
  refine ⟨by rw [flat_length f 9 hf, List.length_set], ?_⟩
  rcases h.2 with ⟨hh, _⟩ | ⟨g', cap', cur, hv, hb, hg, hnc, hcm, hcs, htake⟩
  · simp at hh
  · simp only [Value.slice.injEq, Option.some.injEq, Addr.mk.injEq, and_true, true_and] at hv
    obtain ⟨rfl, rfl⟩ := hv
    obtain ⟨cur', k1, k2, k3, k4⟩ := set9_heap b (f x) (i * 9) w cur e hg
    rw [hf] at k3 k4
    have hsz : l.length * 9 ≤ cur.size := by rw [hcs]; exact Nat.mul_le_mul_right _ hnc
    refine .inr ⟨b, cap, cur', rfl, hb, k1, hnc, hcm, k2.trans hcs, ?_⟩
    apply List.ext_getElem?
    intro j
    by_cases hj : j < l.length * 9
    · have hjm : j = j / 9 * 9 + j % 9 := by omega
      rw [List.getElem?_take, if_pos hj, Array.getElem?_toList]
      have hq : j / 9 < l.length := by omega
      by_cases hji : j / 9 = i
      · have e1 : (l.set i x)[j / 9]? = some x := by rw [hji]; simp [hi]
        have := flat_get f 9 hf (l.set i x) (j / 9) (j % 9) x e1 (by omega)
        rw [← hjm] at this
        rw [this, show j = i * 9 + j % 9 by omega]
        have := k4 (j % 9) (by omega) (by omega)
        rw [this, show (i * 9 + j % 9) % 9 = j % 9 by omega]
      · have e0 : l[j / 9]? = some l[j / 9] := by simp [hq]
        have e1 : (l.set i x)[j / 9]? = some l[j / 9] := by simp [List.getElem?_set, Ne.symm hji, hq]
        have a1 := flat_get f 9 hf (l.set i x) (j / 9) (j % 9) _ e1 (by omega)
        have a0 := flat_get f 9 hf l (j / 9) (j % 9) _ e0 (by omega)
        rw [← hjm] at a1 a0
        rw [a1, k3 j (by omega), ← a0, ← htake, List.getElem?_take, if_pos hj, Array.getElem?_toList]
    · rw [List.getElem?_take, if_neg hj, List.getElem?_eq_none]
      rw [flat_length f 9 hf, List.length_set]
      omega

end Go.Proofs.Ytimffidpbcflaaa
