/-
  Plainly: the longest way from a node, and how many ways lead to one.
-/
import Derived.Test.YtpgcbmbnognieaaGreatPTableW
import Derived.Test.YtpgcbmbnognieaaGreatPWeighT
import Derived.RangeFuncStops
import Derived.RangeFuncCalls
import Derived.RangeFuncLeaves
import Derived.RangeFuncBox
import Derived.Shelf.Abstract
import Derived.Shelf.RegionOpen
import Derived.OwnWalkIn
import Derived.TacticsInMore
import Derived.LoopNIn
import Derived.LoopIn
namespace Go.Proofs.YtpgcbmbnognieaaGreat
set_option linter.unusedSimpArgs false
set_option linter.unusedVariables false
set_option maxHeartbeats 600000

def depthS (M:St):Nat → Int → Int
 | 0,_=>0
 | k + 1,x=>match look M.cs x with
  | none=>0
  | some r=>1 + max (depthS M k r.lo.to) (depthS M k r.hi.to)

def waysS (M:St):Nat → Int → Int
 | 0,x=>if x < 2 then x else 0
 | k + 1,x=>match look M.cs x with
  | none=>x
  | some r=>waysS M k r.lo.to + waysS M k r.hi.to

def Down (M:St) (l:Int) (x:Int):Prop:=l ≤ M.n ∧ (0 ≤ x ∧ x < 2 ∨ ∃ r,look M.cs x=some r ∧ l ≤ r.top)

theorem down_leads {M:St} {f l:Int} {e:Edge} (he:e.ok) (h:M.leads f e l=true):Down M l e.to:=by
 obtain ⟨hp,hr⟩:=leads_iff.1 h
 obtain ⟨p1,p2,p3,p4,p5,p6,p7,p8⟩:=plainB_iff.1 hp
 refine ⟨p6,hr.imp (fun a=>⟨he.2.1,a⟩) (fun ⟨r,a,b,c,d⟩=>⟨r,a,c⟩)⟩

theorem down_sides {M:St} (h:M.wf) {x:Int} {r:Rec} (hk:look M.cs x=some r) (ho:r.lo.ok ∧ r.hi.ok):Down M (r.bot + 1) r.lo.to ∧ Down M (r.bot + 1) r.hi.to:=
 ⟨down_leads ho.1 (h.goodRec hk).lo,down_leads ho.2 (h.goodRec hk).hi⟩

theorem depthS_none {M:St} {x:Int} (h:look M.cs x=none):∀ K,depthS M K x=0:=by
 intro K
 cases K with
 | zero=>rfl
 | succ K=>unfold depthS;rw [h]

theorem depthS_some {M:St} {x:Int} {r:Rec} (h:look M.cs x=some r) (K:Nat):depthS M (K + 1) x=1 + max (depthS M K r.lo.to) (depthS M K r.hi.to):=by
 conv=>lhs;unfold depthS
 rw [h]

theorem waysS_low {M:St} {x:Int} (h:x < 2):∀ K,waysS M K x=x:=by
 intro K
 cases K with
 | zero=>unfold waysS;rw [if_pos h]
 | succ K=>unfold waysS;rw [look_low h]

theorem waysS_some {M:St} {x:Int} {r:Rec} (h:look M.cs x=some r) (K:Nat):waysS M (K + 1) x=waysS M K r.lo.to + waysS M K r.hi.to:=by
 conv=>lhs;unfold waysS
 rw [h]

theorem down_fuel {M:St} (h:M.wf) (hok:∀ id r,look M.cs id=some r → r.lo.ok ∧ r.hi.ok):∀ (K K':Nat) (l x:Int),Down M l x → M.n - l ≤ (K:Int) → M.n - l ≤ (K':Int) → depthS M K x=depthS M K' x ∧ waysS M K x=waysS M K' x:=by
 intro K
 induction K with
 | zero=>
  intro K' l x hd h1 h2
  rcases hd.2 with hx | ⟨r,hk,hr⟩
  ·rw [depthS_none (look_low hx.2),depthS_none (look_low hx.2),waysS_low hx.2,waysS_low hx.2]
   exact ⟨rfl,rfl⟩
  ·have:=(h.goodRec hk).tb
   have:=(h.goodRec hk).bn
   omega
 | succ K ih=>
  intro K' l x hd h1 h2
  rcases hd.2 with hx | ⟨r,hk,hr⟩
  ·rw [depthS_none (look_low hx.2),depthS_none (look_low hx.2),waysS_low hx.2,waysS_low hx.2]
   exact ⟨rfl,rfl⟩
  ·have g1:=(h.goodRec hk).tb
   have g2:=(h.goodRec hk).bn
   cases K' with
   | zero=>omega
   | succ K'=>
    obtain ⟨d0,d1⟩:=down_sides h hk (hok x r hk)
    push_cast at h1 h2
    have i0:=ih K' (r.bot + 1) r.lo.to d0 (by omega) (by omega)
    have i1:=ih K' (r.bot + 1) r.hi.to d1 (by omega) (by omega)
    rw [depthS_some hk,depthS_some hk,waysS_some hk,waysS_some hk,i0.1,i1.1,i0.2,i1.2]
    exact ⟨rfl,rfl⟩

theorem down_range {M:St} (h:M.wf) (hok:∀ id r,look M.cs id=some r → r.lo.ok ∧ r.hi.ok):∀ (K:Nat) (l x:Int),Down M l x → M.n - l ≤ (K:Int) → (0 ≤ depthS M K x ∧ depthS M K x ≤ (K:Int)) ∧ 0 ≤ waysS M K x ∧ waysS M K x ≤ ((2 ^ K:Nat):Int):=by
 intro K
 induction K with
 | zero=>
  intro l x hd h1
  rcases hd.2 with hx | ⟨r,hk,hr⟩
  ·rw [depthS_none (look_low hx.2),waysS_low hx.2]
   exact ⟨⟨Int.le_refl _,Int.le_refl _⟩,by omega,by show x ≤ ((1:Nat):Int);omega⟩
  ·have:=(h.goodRec hk).tb
   have:=(h.goodRec hk).bn
   omega
 | succ K ih=>
  intro l x hd h1
  have hp:1 ≤ 2 ^ K:=Nat.one_le_two_pow
  have e2:2 ^ (K + 1)=2 * 2 ^ K:=by rw [Nat.pow_succ];omega
  obtain ⟨P,hP⟩:∃ P,P=2 ^ K:=⟨_,rfl⟩
  rw [e2]
  rw [← hP] at hp ih ⊢
  rcases hd.2 with hx | ⟨r,hk,hr⟩
  ·rw [depthS_none (look_low hx.2),waysS_low hx.2]
   exact ⟨⟨Int.le_refl _,by omega⟩,by omega,by omega⟩
  ·have g1:=(h.goodRec hk).tb
   have g2:=(h.goodRec hk).bn
   obtain ⟨d0,d1⟩:=down_sides h hk (hok x r hk)
   push_cast at h1
   have i0:=ih (r.bot + 1) r.lo.to d0 (by omega)
   have i1:=ih (r.bot + 1) r.hi.to d1 (by omega)
   rw [depthS_some hk,waysS_some hk]
   omega

def onesN:Nat → Nat → Nat
 | 0,_=>0
 | k + 1,y=>onesN k y + y / 2 ^ k % 2

theorem onesN_le:∀ (k y:Nat),onesN k y ≤ k:=by
 intro k
 induction k with
 | zero=>intro y;exact Nat.le_refl _
 | succ k ih=>
  intro y
  have:=ih y
  show onesN k y + y / 2 ^ k % 2 ≤ k + 1
  omega

theorem onesN_mod (n:Nat):∀ (k y:Nat),k ≤ n → onesN k (y % 2 ^ n)=onesN k y:=by
 intro k
 induction k with
 | zero=>intro y _;rfl
 | succ k ih=>
  intro y hk
  show onesN k (y % 2 ^ n) + y % 2 ^ n / 2 ^ k % 2=onesN k y + y / 2 ^ k % 2
  rw [ih y (by omega),mod_div_bit y n k (by omega)]

theorem asgW_ones (K:Int):∀ (n m y:Nat),asgW (fun _=>1) (fun _=>K) m n y n=K ^ (onesN n y):=by
 intro n
 induction n with
 | zero=>intro m y;show (1:Int)=K ^ 0;rw [Int.pow_zero]
 | succ n ih=>
  intro m y
  rw [asgW_front _ _ m n y n (Nat.le_refl _),ih,onesN_mod n n y (Nat.le_refl _)]
  show _=K ^ (onesN n y + y / 2 ^ n % 2)
  rcases Nat.mod_two_eq_zero_or_one (y / 2 ^ n) with h | h
  ·rw [h,if_neg (by decide),Int.one_mul,Nat.add_zero]
  ·rw [h,if_pos rfl,Int.pow_succ,Int.mul_comm]

def onesL (n:Nat) (ts:List Bool):Nat → List Int
 | 0=>List.replicate (n + 1) 0
 | y + 1=>if ts[y]?=some true then (onesL n ts y).set (onesN n y) ((onesL n ts y).getD (onesN n y) 0 + 1) else onesL n ts y

theorem onesL_len (n:Nat) (ts:List Bool):∀ y,(onesL n ts y).length=n + 1:=by
 intro y
 induction y with
 | zero=>exact List.length_replicate
 | succ y ih=>
  show (if _ then _ else _:List Int).length=_
  split
  ·rw [List.length_set,ih]
  ·exact ih

theorem onesL_range (n:Nat) (ts:List Bool):∀ y,∀ x ∈ onesL n ts y,0 ≤ x ∧ x ≤ (y:Int):=by
 intro y
 induction y with
 | zero=>intro x hx;rw [List.eq_of_mem_replicate hx];exact ⟨Int.le_refl _,Int.le_refl _⟩
 | succ y ih=>
  intro x hx
  have key:∀ x ∈ onesL n ts y,0 ≤ x ∧ x ≤ ((y + 1:Nat):Int):=fun z hz=>by have:=ih z hz;push_cast;omega
  change x ∈ (if _ then _ else _:List Int) at hx
  split at hx
  ·rcases List.mem_or_eq_of_mem_set hx with h | h
   ·exact key x h
   ·rw [h]
    have hl:onesN n y < (onesL n ts y).length:=by rw [onesL_len];have:=onesN_le n y;omega
    have:=ih ((onesL n ts y).getD (onesN n y) 0) (by rw [List.getD_eq_getElem?_getD,List.getElem?_eq_getElem hl];exact List.getElem_mem _)
    push_cast
    omega
  ·exact key x hx

theorem onesL_sum (K n:Nat) (ts:List Bool):∀ y,valW K (onesL n ts y)=sumW (fun _=>1) (fun _=>(K:Int)) 0 n ts y:=by
 intro y
 induction y with
 | zero=>exact valW_zeros K (n + 1)
 | succ y ih=>
  show valW K (if _ then _ else _:List Int)=sumW (fun _=>1) (fun _=>(K:Int)) 0 n ts y + (if ts[y]?=some true then asgW (fun _=>1) (fun _=>(K:Int)) 0 n y n else 0)
  split
  ·have hl:onesN n y < (onesL n ts y).length:=by rw [onesL_len];have:=onesN_le n y;omega
   have he:=List.getElem?_eq_getElem hl
   rw [valW_set K he,ih,asgW_ones,List.getD_eq_getElem?_getD,he]
   congr 1
   show (K:Int) ^ _ * ((onesL n ts y)[onesN n y] + 1 - (onesL n ts y)[onesN n y])=_
   rw [show (onesL n ts y)[onesN n y] + 1 - (onesL n ts y)[onesN n y]=1 by omega,Int.mul_one]
  ·rw [ih,Int.add_zero]

def cntL (ts:List Bool):Nat → Nat
 | 0=>0
 | y + 1=>cntL ts y + (if ts[y]?=some true then 1 else 0)

theorem asgW_one:∀ (n m y k:Nat),asgW (fun _=>1) (fun _=>1) m n y k=1:=by
 intro n m y k
 induction k with
 | zero=>rfl
 | succ k ih=>show asgW _ _ m n y k * (if _ then 1 else 1)=1;rw [ih,ite_self];rfl

theorem cntL_sum (n:Nat) (ts:List Bool):∀ y,(cntL ts y:Int)=sumW (fun _=>1) (fun _=>1) 0 n ts y:=by
 intro y
 induction y with
 | zero=>rfl
 | succ y ih=>
  show ((cntL ts y + (if ts[y]?=some true then 1 else 0):Nat):Int)=sumW _ _ 0 n ts y + (if ts[y]?=some true then asgW _ _ 0 n y n else 0)
  rw [asgW_one,← ih]
  split <;> push_cast <;> rfl

theorem cntL_le (ts:List Bool):∀ y,cntL ts y ≤ y:=by
 intro y
 induction y with
 | zero=>exact Nat.le_refl _
 | succ y ih=>
  show cntL ts y + (if _ then 1 else 0) ≤ y + 1
  split <;> omega

def St.solid (M:St):Prop:=M.gone=[] ∧ ∀ o ∈ M.cs,o ≠ none

theorem solid_find {M:St} (h:M.solid) (r:Rec):(M.findSt r).solid:=by
 unfold St.findSt
 cases M.idOf r with
 | some id=>exact h
 | none=>
  simp only []
  split
  ·exact h
  ·split
   ·exact h
   ·refine ⟨by show M.gone.dropLast=[];rw [h.1];rfl,fun o ho=>?_⟩
    change o ∈ putCs M.cs M.gone r at ho
    unfold putCs at ho
    rw [h.1] at ho
    simp only [List.getLast?_nil] at ho
    rcases List.mem_append.1 ho with ho | ho
    ·exact h.2 o ho
    ·rw [List.mem_singleton] at ho
     subst ho
     simp

theorem solid_act {M:St} (h:M.solid) (a:(Edge × Int) ⊕ Rec):(actSt M a).solid:=by
 cases a with
 | inl x=>exact h
 | inr r=>exact solid_find h r

def vb (X:Nat) (v:Int):Nat:=if bitB (X:Int) v=true then 1 else 0

theorem rising_nodup {a:List Int} (h:a.Pairwise (· < ·)):a.Nodup:=h.imp (fun hab e=>by omega)

end Go.Proofs.YtpgcbmbnognieaaGreat
