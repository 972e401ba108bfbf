/-
  Plainly: what an edge means, level by level; View tells the two halves of what it means.
-/
import Derived.Test.YtpgcbmbnognieaaGreatPHoldsX
import Derived.Test.YtpgcbmbnognieaaGreatPKPlain
namespace Go.Proofs.YtpgcbmbnognieaaGreat
set_option linter.unusedSimpArgs false
set_option linter.unusedVariables false
set_option maxHeartbeats 600000

def Weak (M:St) (f l:Int) (e:Edge):Prop:=l ≤ M.n ∧ (e.to < 2 ∨ ∃ r,look M.cs e.to=some r ∧ r.form=f ∧ l ≤ r.top)

theorem Weak.of {M:St} {f l:Int} {e:Edge} (h:M.leads f e l=true):Weak M f l e:=by
 obtain ⟨hp,hr⟩:=leads_iff.1 h
 obtain ⟨p1,p2,p3,p4,p5,p6,p7,p8⟩:=plainB_iff.1 hp
 exact ⟨p6,hr.imp id (fun ⟨r,a,b,c,_⟩=>⟨r,a,b,c⟩)⟩

theorem Weak.next {M:St} {f l:Int} {e:Edge} (hw:Weak M f l e) (hl:l < M.n):(look M.cs e.to=none ∧ Weak M f (l + 1) e) ∨ ∃ r,look M.cs e.to=some r ∧ r.form=f ∧ ((l < r.top ∧ Weak M f (l + 1) e) ∨ l=r.top):=by
 obtain ⟨h1,h2⟩:=hw
 rcases h2 with h2 | ⟨r,a,b,c⟩
 ·exact .inl ⟨look_low h2,by omega,.inl h2⟩
 ·right
  refine ⟨r,a,b,?_⟩
  by_cases hc:l < r.top
  ·exact .inl ⟨hc,by omega,.inr ⟨r,a,b,by omega⟩⟩
  ·exact .inr (by omega)

theorem hS_no {M:St} {f x l:Int} {e:Edge} (hz:e.to=0):∀ K,hS M f x K l e=false:=by
 intro K
 cases K with
 | zero=>show decide (e.to ≠ 0)=false;simp [hz]
 | succ K=>show (if e.to=0 then false else _)=false;rw [if_pos hz]

theorem hS_end {M:St} {f x l:Int} {e:Edge} (hz:e.to ≠ 0) (hl:M.n ≤ l):∀ K,hS M f x K l e=true:=by
 intro K
 cases K with
 | zero=>exact decide_eq_true hz
 | succ K=>show (if e.to=0 then false else if M.n ≤ l then true else _)=true;rw [if_neg hz,if_pos hl]

theorem hS_skip {M:St} {f x l:Int} {e:Edge} {K:Nat} (hz:e.to ≠ 0) (hl:l < M.n) (hk:look M.cs e.to=none ∨ ∃ r,look M.cs e.to=some r ∧ l < r.top):hS M f x (K + 1) l e=(if zeroAt f e l && bitB x l then false else hS M f x K (l + 1) e):=by
 show (if e.to=0 then false else if M.n ≤ l then true else match look M.cs e.to with | none=>_ | some r=>_)=_
 rw [if_neg hz,if_neg (by omega)]
 rcases hk with hk | ⟨r,hk,hr⟩
 ·rw [hk]
 ·rw [hk]
  simp only []
  rw [if_pos hr]

theorem hS_node {M:St} {f x l:Int} {e:Edge} {r:Rec} {K:Nat} (hl:l < M.n) (hk:look M.cs e.to=some r) (hr:¬ l < r.top):hS M f x (K + 1) l e=hS M f x K (r.bot + 1) (sideE x r):=by
 have hz:e.to ≠ 0:=by have:=(look_some hk).1;omega
 show (if e.to=0 then false else if M.n ≤ l then true else match look M.cs e.to with | none=>_ | some r=>_)=_
 rw [if_neg hz,if_neg (by omega),hk]
 simp only []
 rw [if_neg hr]

theorem weak_side {M:St} (h:M.wf) {f x:Int} {e:Edge} {r:Rec} (hk:look M.cs e.to=some r) (hf:r.form=f):Weak M f (r.bot + 1) (sideE x r):=by
 have:=side_leads h hk (x:=x)
 rw [hf] at this
 exact Weak.of this

theorem hS_fuel {M:St} (h:M.wf) {f x:Int}:∀ (K K':Nat) (l:Int) (e:Edge),Weak M f l e → M.n - l ≤ (K:Int) → M.n - l ≤ (K':Int) → hS M f x K l e=hS M f x K' l e:=by
 intro K
 induction K with
 | zero=>
  intro K' l e hw h1 h2
  by_cases hz:e.to=0
  ·rw [hS_no hz,hS_no hz]
  ·rw [hS_end hz (by omega),hS_end hz (by omega)]
 | succ K ih=>
  intro K' l e hw h1 h2
  by_cases hz:e.to=0
  ·rw [hS_no hz,hS_no hz]
  ·by_cases hl:M.n ≤ l
   ·rw [hS_end hz hl,hS_end hz hl]
   ·cases K' with
    | zero=>omega
    | succ K'=>
     push_cast at h1 h2
     rcases hw.next (by omega) with ⟨hk,hw'⟩ | ⟨r,hk,hf,⟨hr,hw'⟩ | hr⟩
     ·rw [hS_skip hz (by omega) (.inl hk),hS_skip hz (by omega) (.inl hk),ih K' (l + 1) e hw' (by omega) (by omega)]
     ·rw [hS_skip hz (by omega) (.inr ⟨r,hk,hr⟩),hS_skip hz (by omega) (.inr ⟨r,hk,hr⟩),ih K' (l + 1) e hw' (by omega) (by omega)]
     ·have tb:=(h.goodRec hk).tb
      rw [hS_node (by omega) hk (by omega),hS_node (by omega) hk (by omega),ih K' _ _ (weak_side h hk hf) (by omega) (by omega)]

theorem clear_bits {x x':Int}:∀ (n:Nat) (a:Int),(∀ j,a ≤ j → bitB x j=bitB x' j) → clearN x a n=clearN x' a n:=by
 intro n
 induction n with
 | zero=>intro a _;rfl
 | succ n ih=>
  intro a hb
  show (!bitB x a && clearN x (a + 1) n)=(!bitB x' a && clearN x' (a + 1) n)
  rw [hb a (Int.le_refl _),ih (a + 1) (fun j hj=>hb j (by omega))]

theorem hS_bits {M:St} (h:M.wf) {f x x':Int}:∀ (K:Nat) (l:Int) (e:Edge),Weak M f l e → (∀ j,l ≤ j → bitB x j=bitB x' j) → hS M f x K l e=hS M f x' K l e:=by
 intro K
 induction K with
 | zero=>intro l e _ _;rfl
 | succ K ih=>
  intro l e hw hb
  by_cases hz:e.to=0
  ·rw [hS_no hz,hS_no hz]
  ·by_cases hl:M.n ≤ l
   ·rw [hS_end hz hl,hS_end hz hl]
   ·rcases hw.next (by omega) with ⟨hk,hw'⟩ | ⟨r,hk,hf,⟨hr,hw'⟩ | hr⟩
    ·rw [hS_skip hz (by omega) (.inl hk),hS_skip hz (by omega) (.inl hk),hb l (Int.le_refl _),ih (l + 1) e hw' (fun j hj=>hb j (by omega))]
    ·rw [hS_skip hz (by omega) (.inr ⟨r,hk,hr⟩),hS_skip hz (by omega) (.inr ⟨r,hk,hr⟩),hb l (Int.le_refl _),ih (l + 1) e hw' (fun j hj=>hb j (by omega))]
    ·have tb:=(h.goodRec hk).tb
     have hs:sideE x r=sideE x' r:=by
      unfold sideE someB
      rw [clear_bits _ r.top (fun j hj=>hb j (by omega)),hb r.bot (by omega)]
     rw [hS_node (by omega) hk (by omega),hS_node (by omega) hk (by omega),hs,ih _ _ (weak_side h hk hf) (fun j hj=>hb j (by omega))]

def tv (M:St) (f x l:Int) (e:Edge):Bool:=hS M f x (M.n - l).toNat l e

theorem tv_bits {M:St} (h:M.wf) {f x x' l:Int} {e:Edge} (hw:Weak M f l e) (hb:∀ j,l ≤ j → bitB x j=bitB x' j):tv M f x l e=tv M f x' l e:=hS_bits h _ l e hw hb

theorem tv_no {M:St} {f x l:Int} {e:Edge} (hz:e.to=0):tv M f x l e=false:=hS_no hz _

theorem tv_end {M:St} {f x l:Int} {e:Edge} (hz:e.to ≠ 0) (hl:M.n ≤ l):tv M f x l e=true:=hS_end hz hl _

theorem tv_skip {M:St} {f x l:Int} {e:Edge} (hz:e.to ≠ 0) (hl:l < M.n) (hk:look M.cs e.to=none ∨ ∃ r,look M.cs e.to=some r ∧ l < r.top):tv M f x l e=(if zeroAt f e l && bitB x l then false else tv M f x (l + 1) e):=by
 unfold tv
 rw [show (M.n - l).toNat=(M.n - (l + 1)).toNat + 1 by omega]
 exact hS_skip hz hl hk

theorem tv_node {M:St} (h:M.wf) {f x l:Int} {e:Edge} {r:Rec} (hl:l < M.n) (hk:look M.cs e.to=some r) (hf:r.form=f) (hr:¬ l < r.top) (hle:r.top=l):tv M f x l e=tv M f x (r.bot + 1) (sideE x r):=by
 have tb:=(h.goodRec hk).tb
 unfold tv
 rw [show (M.n - l).toNat=(M.n - (l + 1)).toNat + 1 by omega,hS_node hl hk hr]
 exact hS_fuel h _ _ _ _ (weak_side h hk hf) (by omega) (by omega)

def tabX (g:Int → Bool):Nat → Nat → Int → List Bool
 | 0,_,x=>[g x]
 | k + 1,m,x=>tabX g k (m + 1) x ++ tabX g k (m + 1) (x + 2 ^ m)

theorem tabX_len (g:Int → Bool):∀ (k m:Nat) (x:Int),(tabX g k m x).length=2 ^ k:=by
 intro k
 induction k with
 | zero=>intro m x;rfl
 | succ k ih=>
  intro m x
  show (tabX g k (m + 1) x ++ tabX g k (m + 1) (x + 2 ^ m)).length=_
  rw [List.length_append,ih,ih,Nat.pow_succ]
  omega

def tabE (M:St) (f:Int) (e:Edge) (l:Int):List Bool:=tabX (fun x=>tv M f x l e) (M.n - l).toNat l.toNat 0

theorem tabE_len {M:St} {f:Int} {e:Edge} {l:Int}:(tabE M f e l).length=2 ^ (M.n - l).toNat:=tabX_len _ _ _ _

theorem bit_low (m t:Nat):bitB (0 + 2 ^ (m + 1) * (t:Int)) (m:Int)=false:=by
 unfold bitB
 rw [Int.toNat_natCast,Int.zero_add,Int.pow_succ,show (2:Int) ^ m * 2 * (t:Int)=2 ^ m * (2 * (t:Int)) by rw [Int.mul_assoc],Int.mul_ediv_cancel_left _ (Int.ne_of_gt (Int.pow_pos (by decide)))]
 rw [decide_eq_false]
 omega

theorem bit_high (m t:Nat):bitB (0 + 2 ^ m + 2 ^ (m + 1) * (t:Int)) (m:Int)=true:=by
 unfold bitB
 rw [Int.toNat_natCast,Int.zero_add,Int.pow_succ,show (2:Int) ^ m + 2 ^ m * 2 * (t:Int)=2 ^ m * (1 + 2 * (t:Int)) by rw [Int.mul_add,Int.mul_one,← Int.mul_assoc],Int.mul_ediv_cancel_left _ (Int.ne_of_gt (Int.pow_pos (by decide)))]
 rw [decide_eq_true]
 omega

theorem bit_above (m t:Nat) (j:Int) (hj:(m:Int) + 1 ≤ j):bitB (0 + 2 ^ m + 2 ^ (m + 1) * (t:Int)) j=bitB (0 + 2 ^ (m + 1) * (t:Int)) j:=by
 obtain ⟨d,hd⟩:∃ d:Nat,j.toNat=(m + 1) + d:=⟨j.toNat - (m + 1),by omega⟩
 have hp:(0:Int) < 2 ^ m:=Int.pow_pos (by decide)
 have e1:(0 + 2 ^ m + 2 ^ (m + 1) * (t:Int)) / 2 ^ (m + 1)=(t:Int):=by
  rw [Int.add_mul_ediv_left _ _ (Int.ne_of_gt (Int.pow_pos (by decide)))]
  rw [Int.ediv_eq_zero_of_lt (by omega) (by rw [Int.pow_succ];omega)]
  omega
 have e2:(0 + 2 ^ (m + 1) * (t:Int)) / 2 ^ (m + 1)=(t:Int):=by
  rw [Int.zero_add,Int.mul_ediv_cancel_left _ (Int.ne_of_gt (Int.pow_pos (by decide)))]
 have key:∀ a:Int,a / 2 ^ (m + 1 + d)=a / 2 ^ (m + 1) / 2 ^ d:=fun a=>by
  rw [Int.ediv_ediv_of_nonneg (Int.le_of_lt (Int.pow_pos (by decide))),← Int.pow_add]
 unfold bitB
 rw [hd,key,key,e1,e2]

end Go.Proofs.YtpgcbmbnognieaaGreat
