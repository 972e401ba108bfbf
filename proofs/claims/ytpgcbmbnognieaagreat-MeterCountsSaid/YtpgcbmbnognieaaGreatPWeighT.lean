/-
  Plainly: what the assignments of an edge weigh together, level by level and node by node.
-/
import Derived.Test.YtpgcbmbnognieaaGreatPMeansA
namespace Go.Proofs.YtpgcbmbnognieaaGreat
set_option linter.unusedSimpArgs false
set_option linter.unusedVariables false
set_option maxHeartbeats 600000

def wX (lo hi:Nat → Int) (g:Int → Bool):Nat → Nat → Int → Int
 | 0,_,x=>if g x then 1 else 0
 | k + 1,m,x=>lo m * wX lo hi g k (m + 1) x + hi m * wX lo hi g k (m + 1) (x + 2 ^ m)

theorem wX_same {lo hi:Nat → Int} {g g':Int → Bool}:∀ (k m:Nat) (x x':Int),(∀ t:Nat,g (x + 2 ^ m * (t:Int))=g' (x' + 2 ^ m * (t:Int))) → wX lo hi g k m x=wX lo hi g' k m x':=by
 intro k
 induction k with
 | zero=>
  intro m x x' h
  have:=h 0
  simp at this
  show (if g x then (1:Int) else 0)=if g' x' then 1 else 0
  rw [this]
 | succ k ih=>
  intro m x x' h
  show lo m * wX lo hi g k (m + 1) x + hi m * wX lo hi g k (m + 1) (x + 2 ^ m)=lo m * wX lo hi g' k (m + 1) x' + hi m * wX lo hi g' k (m + 1) (x' + 2 ^ m)
  rw [ih (m + 1) x x' (fun t=>?_),ih (m + 1) (x + 2 ^ m) (x' + 2 ^ m) (fun t=>?_)]
  ·have:=h (1 + 2 * t)
   push_cast at this
   rw [show x + 2 ^ m + 2 ^ (m + 1) * (t:Int)=x + 2 ^ m * (1 + 2 * (t:Int)) by rw [Int.pow_succ];rw [Int.mul_add,Int.mul_one,← Int.mul_assoc];omega,
    show x' + 2 ^ m + 2 ^ (m + 1) * (t:Int)=x' + 2 ^ m * (1 + 2 * (t:Int)) by rw [Int.pow_succ];rw [Int.mul_add,Int.mul_one,← Int.mul_assoc];omega]
   exact this
  ·have:=h (2 * t)
   push_cast at this
   rw [show x + 2 ^ (m + 1) * (t:Int)=x + 2 ^ m * (2 * (t:Int)) by rw [Int.pow_succ,← Int.mul_assoc],
    show x' + 2 ^ (m + 1) * (t:Int)=x' + 2 ^ m * (2 * (t:Int)) by rw [Int.pow_succ,← Int.mul_assoc]]
   exact this

theorem wX_none {lo hi:Nat → Int} {g:Int → Bool} (h:∀ x,g x=false):∀ (k m:Nat) (x:Int),wX lo hi g k m x=0:=by
 intro k
 induction k with
 | zero=>intro m x;show (if g x then (1:Int) else 0)=0;rw [h x];rfl
 | succ k ih=>
  intro m x
  show lo m * wX lo hi g k (m + 1) x + hi m * wX lo hi g k (m + 1) (x + 2 ^ m)=0
  rw [ih,ih,Int.mul_zero,Int.mul_zero]
  rfl

def From (g:Int → Bool) (m:Nat):Prop:=∀ x x',(∀ j:Int,(m:Int) ≤ j → bitB x j=bitB x' j) → g x=g x'

theorem wX_cut {lo hi:Nat → Int} {g g0 g1:Int → Bool} {k m:Nat} (h1:From g1 (m + 1)) (e0:∀ x,bitB x (m:Int)=false → g x=g0 x) (e1:∀ x,bitB x (m:Int)=true → g x=g1 x) :
  wX lo hi g (k + 1) m 0=lo m * wX lo hi g0 k (m + 1) 0 + hi m * wX lo hi g1 k (m + 1) 0:=by
 show lo m * wX lo hi g k (m + 1) 0 + hi m * wX lo hi g k (m + 1) (0 + 2 ^ m)=_
 rw [wX_same (g':=g0) k (m + 1) 0 0 (fun t=>e0 _ (bit_low m t)),wX_same (g':=g1) k (m + 1) (0 + 2 ^ m) 0 (fun t=>(e1 _ (bit_high m t)).trans (h1 _ _ (fun j hj=>bit_above m t j (by push_cast at hj;omega))))]

theorem wX_free {lo hi:Nat → Int} {g g1:Int → Bool} {k m:Nat} (h1:From g1 (m + 1)) (e:∀ x,g x=g1 x):wX lo hi g (k + 1) m 0=(lo m + hi m) * wX lo hi g1 k (m + 1) 0:=by
 rw [wX_cut h1 (fun x _=>e x) (fun x _=>e x),Int.add_mul]

def wE (lo hi:Nat → Int) (M:St) (f:Int) (e:Edge) (l:Int):Int:=wX lo hi (fun x=>tv M f x l e) (M.n - l).toNat l.toNat 0

theorem wE_no {lo hi:Nat → Int} {M:St} {f l:Int} {e:Edge} (hz:e.to=0):wE lo hi M f e l=0:=wX_none (fun _=>tv_no hz) _ _ _

theorem wE_end {lo hi:Nat → Int} {M:St} {f l:Int} {e:Edge} (hz:e.to ≠ 0) (hl:M.n=l):wE lo hi M f e l=1:=by
 unfold wE
 rw [show (M.n - l).toNat=0 by omega]
 show (if tv M f 0 l e then (1:Int) else 0)=1
 rw [tv_end hz (by omega)]
 rfl

theorem tv_from {M:St} (h:M.wf) {f:Int} {m:Nat} {e:Edge} (hw:Weak M f (m:Int) e):From (fun x=>tv M f x (m:Int) e) m:=fun _ _ hb=>tv_bits h hw hb

theorem weak_next {M:St} {f l:Int} {e:Edge} (hw:Weak M f l e) (hl:l < M.n) (hk:look M.cs e.to=none ∨ ∃ r,look M.cs e.to=some r ∧ l < r.top):Weak M f (l + 1) e:=by
 rcases hw.next hl with ⟨_,q⟩ | ⟨r,a,b,⟨_,q⟩ | c⟩
 ·exact q
 ·exact q
 ·rcases hk with hk | ⟨r',hk,hlt⟩
  ·rw [hk] at a;cases a
  ·rw [hk] at a;cases a;omega

theorem wE_skip {lo hi:Nat → Int} {M:St} (h:M.wf) {f:Int} {m:Nat} {e:Edge} (hw:Weak M f (m:Int) e) (hl:(m:Int) < M.n) (hk:look M.cs e.to=none ∨ ∃ r,look M.cs e.to=some r ∧ (m:Int) < r.top) :
  wE lo hi M f e (m:Int)=(if zeroAt f e (m:Int) then lo m else lo m + hi m) * wE lo hi M f e ((m + 1:Nat):Int):=by
 by_cases hz:e.to=0
 ·rw [wE_no hz,wE_no hz,Int.mul_zero]
 have hw':Weak M f ((m + 1:Nat):Int) e:=by push_cast;exact weak_next hw hl hk
 have hs:=fun x=>tv_skip (f:=f) (x:=x) hz hl hk
 unfold wE
 rw [show (M.n - (m:Int)).toNat=(M.n - ((m + 1:Nat):Int)).toNat + 1 by push_cast;omega,Int.toNat_natCast,Int.toNat_natCast]
 cases hzero:zeroAt f e (m:Int) with
 | false=>
  rw [if_neg (by simp)]
  refine wX_free (tv_from h hw') (fun x=>?_)
  rw [hs x,hzero,Bool.false_and,if_neg (by simp)]
  push_cast
  rfl
 | true=>
  rw [if_pos rfl,wX_cut (g0:=fun x=>tv M f x ((m + 1:Nat):Int) e) (g1:=fun _=>false) (fun _ _ _=>rfl) (fun x hb=>?_) (fun x hb=>?_),wX_none (fun _=>rfl),Int.mul_zero,Int.add_zero]
  ·rw [hs x,hzero,hb,Bool.and_false,if_neg (by simp)]
   push_cast
   rfl
  ·rw [hs x,hzero,hb]
   rfl

def prW (h:Nat → Int) (m:Nat):Nat → Int
 | 0=>1
 | d + 1=>prW h m d * h (m + d)

theorem prW_front (h:Nat → Int):∀ (d m:Nat),prW h m (d + 1)=h m * prW h (m + 1) d:=by
 intro d
 induction d with
 | zero=>intro m;show 1 * h (m + 0)=h m * 1;simp
 | succ d ih=>
  intro m
  show prW h m (d + 1) * h (m + (d + 1))=h m * (prW h (m + 1) d * h (m + 1 + d))
  rw [ih m,Int.mul_assoc,show m + (d + 1)=m + 1 + d by omega]

theorem prW_add (h:Nat → Int) (m a:Nat):∀ b,prW h m (a + b)=prW h m a * prW h (m + a) b:=by
 intro b
 induction b with
 | zero=>show prW h m a=prW h m a * 1;rw [Int.mul_one]
 | succ b ih=>
  show prW h m (a + b) * h (m + (a + b))=prW h m a * (prW h (m + a) b * h (m + a + b))
  rw [ih,Int.mul_assoc,Nat.add_assoc]

def outW (lo hi:Nat → Int) (f:Int) (e:Edge) (m:Nat):Int:=if zeroAt f e (m:Int) then lo m else lo m + hi m

theorem wE_skips {lo hi:Nat → Int} {M:St} (h:M.wf) {f:Int} {e:Edge} {top:Nat} (ht:(top:Int) ≤ M.n) (hk:look M.cs e.to=none ∨ ∃ r,look M.cs e.to=some r ∧ (top:Int) ≤ r.top) :
  ∀ (d m:Nat),m + d=top → Weak M f (m:Int) e → wE lo hi M f e (m:Int)=prW (outW lo hi f e) m d * wE lo hi M f e (top:Int):=by
 intro d
 induction d with
 | zero=>intro m hm _;rw [← hm];show _=1 * _;rw [Int.one_mul];rfl
 | succ d ih=>
  intro m hm hw
  have hk':look M.cs e.to=none ∨ ∃ r,look M.cs e.to=some r ∧ (m:Int) < r.top:=hk.imp id (fun ⟨r,a,b⟩=>⟨r,a,by omega⟩)
  have hw':=weak_next hw (by omega) hk'
  rw [wE_skip h hw (by omega) hk',ih (m + 1) (by omega) (by push_cast;exact hw'),prW_front,Int.mul_assoc]
  rfl

theorem prW_same {h h':Nat → Int} {m:Nat}:∀ d,(∀ j,m ≤ j → j < m + d → h j=h' j) → prW h m d=prW h' m d:=by
 intro d
 induction d with
 | zero=>intro _;rfl
 | succ d ih=>
  intro hj
  show prW h m d * h (m + d)=prW h' m d * h' (m + d)
  rw [ih (fun j a b=>hj j a (by omega)),hj (m + d) (by omega) (by omega)]

def bothW (lo hi:Nat → Int) (m:Nat):Int:=lo m + hi m

theorem out_split {lo hi:Nat → Int} {f:Int} (hf:1 ≤ f ∧ f ≤ 5) {e:Edge} {m top c:Nat} (hmt:m ≤ top) (hc:(c:Int)=freeI f e (m:Int) (top:Int)) (h5:f=5 → (m:Int) ≤ e.tag ∧ e.tag ≤ (top:Int)) :
  m ≤ c ∧ c ≤ top ∧ prW (outW lo hi f e) m (top - m)=prW (bothW lo hi) m (c - m) * prW lo c (top - c):=by
 have hcc:m ≤ c ∧ c ≤ top ∧ (∀ j:Nat,m ≤ j → j < top → zeroAt f e (j:Int)=decide (c ≤ j)):=by
  unfold freeI at hc
  split at hc
  ·rename_i h13
   refine ⟨by omega,by omega,fun j h1 h2=>?_⟩
   rw [decide_eq_false (by omega)]
   rcases h13 with rfl | rfl <;> rfl
  ·split at hc
   ·rename_i hf5
    subst hf5
    have:=h5 rfl
    refine ⟨by omega,by omega,fun j h1 h2=>?_⟩
    unfold zeroAt
    by_cases hcj:c ≤ j
    ·rw [decide_eq_true hcj,decide_eq_true (show e.tag ≤ (j:Int) by omega)];rfl
    ·rw [decide_eq_false hcj,decide_eq_false (show ¬ e.tag ≤ (j:Int) by omega)];rfl
   ·rename_i h13 hf5
    refine ⟨by omega,by omega,fun j h1 h2=>?_⟩
    rw [decide_eq_true (by omega)]
    have:f=2 ∨ f=4:=by omega
    rcases this with rfl | rfl <;> rfl
 obtain ⟨h1,h2,h3⟩:=hcc
 refine ⟨h1,h2,?_⟩
 rw [show top - m=(c - m) + (top - c) by omega,prW_add,show m + (c - m)=c by omega]
 congr 1
 ·refine prW_same _ (fun j a b=>?_)
  unfold outW bothW
  rw [h3 j a (by omega),decide_eq_false (by omega),if_neg (by simp)]
 ·refine prW_same _ (fun j a b=>?_)
  unfold outW
  rw [h3 j (by omega) (by omega),decide_eq_true (by omega),if_pos rfl]

theorem wX_run {lo hi:Nat → Int} {g:Int → Bool} {b:Nat}:∀ (d m k:Nat),m + d=b → d ≤ k → From g b → wX lo hi g k m 0=prW (bothW lo hi) m d * wX lo hi g (k - d) b 0:=by
 intro d
 induction d with
 | zero=>intro m k hm _ _;rw [← hm];show _=1 * _;rw [Int.one_mul];rfl
 | succ d ih=>
  intro m k hm hk hg
  obtain ⟨k',rfl⟩:∃ k',k=k' + 1:=⟨k - 1,by omega⟩
  have hg':From g (m + 1):=fun x x' hb=>hg x x' (fun j hj=>hb j (by omega))
  rw [wX_free hg' (fun _=>rfl),ih (m + 1) k' (by omega) (by omega) hg,prW_front,Int.mul_assoc,show k' + 1 - (d + 1)=k' - d by omega]
  rfl

theorem wE_node {lo hi:Nat → Int} {M:St} (h:M.wf) {f:Int} {e:Edge} {r:Rec} {t b:Nat} (hk:look M.cs e.to=some r) (hf:r.form=f) (h3:f ≠ 3) (ht:(t:Int)=r.top) (hb:(b:Int)=r.bot) :
  wE lo hi M f e (t:Int)=prW (bothW lo hi) t (b - t) * (lo b * wE lo hi M f r.lo ((b + 1:Nat):Int) + hi b * wE lo hi M f r.hi ((b + 1:Nat):Int)):=by
 have g:=h.goodRec hk
 have g1:=g.tb
 have g2:=g.bn
 have w0:Weak M f ((b + 1:Nat):Int) r.lo:=by push_cast;rw [hb,← hf];exact Weak.of g.lo
 have w1:Weak M f ((b + 1:Nat):Int) r.hi:=by push_cast;rw [hb,← hf];exact Weak.of g.hi
 have hs:∀ x,tv M f x (t:Int) e=tv M f x ((b + 1:Nat):Int) (if bitB x (b:Int) then r.hi else r.lo):=fun x=>by
  have hsb:someB x r=bitB x r.bot:=by
   unfold someB
   rw [if_neg (by omega)]
  rw [tv_node h (by omega) hk hf (by omega) ht.symm]
  unfold sideE
  rw [hsb]
  push_cast
  rw [hb]
 have f0:=tv_from h w0
 have f1:=tv_from h w1
 have hgb:From (fun x=>tv M f x (t:Int) e) b:=fun x x' hx=>by
  show tv M f x (t:Int) e=tv M f x' (t:Int) e
  rw [hs x,hs x',hx b (Int.le_refl _)]
  split
  ·exact f1 x x' (fun j hj=>hx j (by push_cast at hj;omega))
  ·exact f0 x x' (fun j hj=>hx j (by push_cast at hj;omega))
 unfold wE
 rw [Int.toNat_natCast,Int.toNat_natCast,wX_run (b - t) t _ (by omega) (by omega) hgb]
 congr 1
 rw [show (M.n - (t:Int)).toNat - (b - t)=(M.n - ((b + 1:Nat):Int)).toNat + 1 by push_cast;omega]
 refine wX_cut f1 (fun x hx=>?_) (fun x hx=>?_)
 ·rw [hs x,hx,if_neg (by simp)]
 ·rw [hs x,hx,if_pos rfl]

theorem wX_chain {lo hi:Nat → Int} {g0 g1:Int → Bool} {b:Nat} (h0:From g0 b) (h1:From g1 b):∀ (d m k:Nat),m + d=b → d ≤ k →
  wX lo hi (fun x=>if clearN x (m:Int) d then g0 x else g1 x) k m 0=prW lo m d * wX lo hi g0 (k - d) b 0 + (prW (bothW lo hi) m d - prW lo m d) * wX lo hi g1 (k - d) b 0:=by
 intro d
 induction d with
 | zero=>
  intro m k hm _
  subst hm
  show wX lo hi g0 k m 0=1 * wX lo hi g0 k m 0 + (1 - 1) * _
  rw [Int.one_mul,Int.sub_self,Int.zero_mul,Int.add_zero]
 | succ d ih=>
  intro m k hm hk
  obtain ⟨k',rfl⟩:∃ k',k=k' + 1:=⟨k - 1,by omega⟩
  have up:∀ {g:Int → Bool},From g b → From g (m + 1):=fun hg x x' hb=>hg x x' (fun j hj=>hb j (by omega))
  rw [wX_cut (g0:=fun x=>if clearN x ((m + 1:Nat):Int) d then g0 x else g1 x) (g1:=g1) (up h1) (fun x hx=>?_) (fun x hx=>?_),ih (m + 1) k' (by omega) (by omega),prW_front,prW_front,show k' + 1 - (d + 1)=k' - d by omega,
   wX_run (g:=g1) d (m + 1) k' (by omega) (by omega) h1]
  ·show _=lo m * _ * _ + ((lo m + hi m) * _ - lo m * _) * _
   generalize prW lo (m + 1) d=A
   generalize prW (bothW lo hi) (m + 1) d=C
   generalize wX lo hi g0 (k' - d) b 0=X
   generalize wX lo hi g1 (k' - d) b 0=Y
   simp only [Int.mul_add,Int.add_mul,Int.sub_mul,Int.mul_sub,Int.mul_assoc]
   omega
  ·show (if (!bitB x (m:Int) && clearN x ((m:Int) + 1) d) then g0 x else g1 x)=_
   rw [hx]
   push_cast
   rfl
  ·show (if (!bitB x (m:Int) && clearN x ((m:Int) + 1) d) then g0 x else g1 x)=_
   rw [hx]
   rfl

theorem wE_chain {lo hi:Nat → Int} {M:St} (h:M.wf) {e:Edge} {r:Rec} {t b:Nat} (hk:look M.cs e.to=some r) (hf:r.form=3) (ht:(t:Int)=r.top) (hb:(b:Int)=r.bot) :
  wE lo hi M 3 e (t:Int)=prW lo t (b + 1 - t) * wE lo hi M 3 r.lo ((b + 1:Nat):Int) + (prW (bothW lo hi) t (b + 1 - t) - prW lo t (b + 1 - t)) * wE lo hi M 3 r.hi ((b + 1:Nat):Int):=by
 have g:=h.goodRec hk
 have g1:=g.tb
 have g2:=g.bn
 have w0:Weak M 3 ((b + 1:Nat):Int) r.lo:=by push_cast;rw [hb,← hf];exact Weak.of g.lo
 have w1:Weak M 3 ((b + 1:Nat):Int) r.hi:=by push_cast;rw [hb,← hf];exact Weak.of g.hi
 have hs:(fun x=>tv M 3 x (t:Int) e)=(fun x=>if clearN x (t:Int) (b + 1 - t) then tv M 3 x ((b + 1:Nat):Int) r.lo else tv M 3 x ((b + 1:Nat):Int) r.hi):=by
  funext x
  rw [tv_node h (by omega) hk hf (by omega) ht.symm]
  unfold sideE someB
  rw [if_pos hf,← ht,← hb,show ((b:Int) + 1 - (t:Int)).toNat=b + 1 - t by omega]
  push_cast
  cases clearN x (t:Int) (b + 1 - t) <;> rfl
 unfold wE
 rw [Int.toNat_natCast,Int.toNat_natCast,hs,wX_chain (tv_from h w0) (tv_from h w1) (b + 1 - t) t _ (by omega) (by omega),
  show (M.n - (t:Int)).toNat - (b + 1 - t)=(M.n - ((b + 1:Nat):Int)).toNat by push_cast;omega]

def asgW (lo hi:Nat → Int) (m n y:Nat):Nat → Int
 | 0=>1
 | k + 1=>asgW lo hi m n y k * (if y / 2 ^ (n - 1 - k) % 2=1 then hi (m + k) else lo (m + k))

def sumW (lo hi:Nat → Int) (m n:Nat) (ts:List Bool):Nat → Int
 | 0=>0
 | y + 1=>sumW lo hi m n ts y + (if ts[y]?=some true then asgW lo hi m n y n else 0)

theorem mod_div_bit (y n j:Nat) (h:j < n):y % 2 ^ n / 2 ^ j % 2=y / 2 ^ j % 2:=by
 obtain ⟨d,rfl⟩:∃ d,n=j + (d + 1):=⟨n - j - 1,by omega⟩
 rw [Nat.pow_add,Nat.mod_mul_right_div_self,Nat.pow_succ,Nat.mod_mul_left_mod]

theorem asgW_front (lo hi:Nat → Int) (m n y:Nat):∀ k,k ≤ n → asgW lo hi m (n + 1) y (k + 1)=(if y / 2 ^ n % 2=1 then hi m else lo m) * asgW lo hi (m + 1) n (y % 2 ^ n) k:=by
 intro k
 induction k with
 | zero=>intro _;show 1 * (if y / 2 ^ (n + 1 - 1 - 0) % 2=1 then hi (m + 0) else lo (m + 0))=_ * 1;rw [Int.one_mul,Int.mul_one];rfl
 | succ k ih=>
  intro hk
  show asgW lo hi m (n + 1) y (k + 1) * (if y / 2 ^ (n + 1 - 1 - (k + 1)) % 2=1 then hi (m + (k + 1)) else lo (m + (k + 1)))=_ * (asgW lo hi (m + 1) n (y % 2 ^ n) k * (if y % 2 ^ n / 2 ^ (n - 1 - k) % 2=1 then hi (m + 1 + k) else lo (m + 1 + k)))
  rw [ih (by omega),mod_div_bit y n (n - 1 - k) (by omega),show n + 1 - 1 - (k + 1)=n - 1 - k by omega,show m + (k + 1)=m + 1 + k by omega,Int.mul_assoc]

theorem sumW_low (lo hi:Nat → Int) (m n:Nat) (t0 t1:List Bool) (h0:t0.length=2 ^ n):∀ y,y ≤ 2 ^ n → sumW lo hi m (n + 1) (t0 ++ t1) y=lo m * sumW lo hi (m + 1) n t0 y:=by
 intro y
 induction y with
 | zero=>intro _;show (0:Int)=_ * 0;rw [Int.mul_zero]
 | succ y ih=>
  intro hy
  show sumW lo hi m (n + 1) (t0 ++ t1) y + (if (t0 ++ t1)[y]?=some true then asgW lo hi m (n + 1) y (n + 1) else 0)=lo m * (sumW lo hi (m + 1) n t0 y + (if t0[y]?=some true then asgW lo hi (m + 1) n y n else 0))
  have hlt:y < 2 ^ n:=by omega
  have hb:(if y / 2 ^ n % 2=1 then hi m else lo m)=lo m:=by rw [Nat.div_eq_of_lt hlt];rfl
  rw [ih (by omega),List.getElem?_append_left (by omega),asgW_front lo hi m n y n (Nat.le_refl _),Nat.mod_eq_of_lt hlt,hb,Int.mul_add]
  split
  ·rfl
  ·rw [Int.mul_zero]

theorem sumW_high (lo hi:Nat → Int) (m n:Nat) (t0 t1:List Bool) (h0:t0.length=2 ^ n):∀ y,y ≤ 2 ^ n → sumW lo hi m (n + 1) (t0 ++ t1) (2 ^ n + y)=lo m * sumW lo hi (m + 1) n t0 (2 ^ n) + hi m * sumW lo hi (m + 1) n t1 y:=by
 intro y
 induction y with
 | zero=>
  intro _
  show sumW lo hi m (n + 1) (t0 ++ t1) (2 ^ n)=_ + hi m * 0
  rw [sumW_low lo hi m n t0 t1 h0 _ (Nat.le_refl _),Int.mul_zero,Int.add_zero]
 | succ y ih=>
  intro hy
  show sumW lo hi m (n + 1) (t0 ++ t1) (2 ^ n + y) + (if (t0 ++ t1)[2 ^ n + y]?=some true then asgW lo hi m (n + 1) (2 ^ n + y) (n + 1) else 0)=lo m * sumW lo hi (m + 1) n t0 (2 ^ n) + hi m * (sumW lo hi (m + 1) n t1 y + (if t1[y]?=some true then asgW lo hi (m + 1) n y n else 0))
  have hp:0 < 2 ^ n:=Nat.two_pow_pos n
  have hlt:y < 2 ^ n:=by omega
  have hb:(if (2 ^ n + y) / 2 ^ n % 2=1 then hi m else lo m)=hi m:=by rw [Nat.add_div_left _ hp,Nat.div_eq_of_lt hlt];rfl
  rw [ih (by omega),List.getElem?_append_right (by omega),h0,show 2 ^ n + y - 2 ^ n=y by omega,asgW_front lo hi m n _ n (Nat.le_refl _),hb,Nat.add_mod_left,Nat.mod_eq_of_lt hlt,Int.mul_add,Int.add_assoc]
  split
  ·rfl
  ·rw [Int.mul_zero]

theorem sumW_tab (lo hi:Nat → Int) (g:Int → Bool):∀ (n m:Nat) (x:Int),sumW lo hi m n (tabX g n m x) (2 ^ n)=wX lo hi g n m x:=by
 intro n
 induction n with
 | zero=>
  intro m x
  show 0 + (if ([g x]:List Bool)[0]?=some true then (1:Int) else 0)=if g x then 1 else 0
  cases g x <;> rfl
 | succ n ih=>
  intro m x
  show sumW lo hi m (n + 1) (tabX g n (m + 1) x ++ tabX g n (m + 1) (x + 2 ^ m)) (2 ^ (n + 1))=lo m * wX lo hi g n (m + 1) x + hi m * wX lo hi g n (m + 1) (x + 2 ^ m)
  rw [show 2 ^ (n + 1)=2 ^ n + 2 ^ n by rw [Nat.pow_succ];omega,sumW_high lo hi m n _ _ (tabX_len _ _ _ _) _ (Nat.le_refl _),ih,ih]

theorem wE_sum (lo hi:Nat → Int) (M:St) (hn:0 ≤ M.n) (f:Int) (e:Edge):sumW lo hi 0 M.n.toNat (tabE M f e 0) (2 ^ M.n.toNat)=wE lo hi M f e 0:=by
 unfold tabE wE
 rw [Int.sub_zero]
 exact sumW_tab lo hi _ _ _ _

theorem prW_nonneg {h:Nat → Int} (h0:∀ j,0 ≤ h j) (m:Nat):∀ d,0 ≤ prW h m d:=by
 intro d
 induction d with
 | zero=>show (0:Int) ≤ 1;decide
 | succ d ih=>exact Int.mul_nonneg ih (h0 _)

theorem prW_le {h h':Nat → Int} (h0:∀ j,0 ≤ h j) (hh:∀ j,h j ≤ h' j) (m:Nat):∀ d,prW h m d ≤ prW h' m d:=by
 intro d
 induction d with
 | zero=>exact Int.le_refl _
 | succ d ih=>
  show prW h m d * h (m + d) ≤ prW h' m d * h' (m + d)
  exact Int.mul_le_mul ih (hh _) (h0 _) (Int.le_trans (prW_nonneg h0 m d) ih)

theorem prW_const (c:Int) (m:Nat):∀ d,prW (fun _=>c) m d=c ^ d:=by
 intro d
 induction d with
 | zero=>rw [Int.pow_zero];rfl
 | succ d ih=>rw [Int.pow_succ,← ih];rfl

theorem wX_nonneg {lo hi:Nat → Int} (h0:∀ j,0 ≤ lo j) (h1:∀ j,0 ≤ hi j) (g:Int → Bool):∀ (k m:Nat) (x:Int),0 ≤ wX lo hi g k m x:=by
 intro k
 induction k with
 | zero=>intro m x;show 0 ≤ (if g x then (1:Int) else 0);split <;> decide
 | succ k ih=>intro m x;exact Int.add_nonneg (Int.mul_nonneg (h0 m) (ih _ _)) (Int.mul_nonneg (h1 m) (ih _ _))

theorem wX_le {lo hi:Nat → Int} (h0:∀ j,0 ≤ lo j) (h1:∀ j,0 ≤ hi j) (g:Int → Bool):∀ (k m:Nat) (x:Int),wX lo hi g k m x ≤ prW (bothW lo hi) m k:=by
 intro k
 induction k with
 | zero=>intro m x;show (if g x then (1:Int) else 0) ≤ 1;split <;> decide
 | succ k ih=>
  intro m x
  rw [prW_front]
  show lo m * _ + hi m * _ ≤ (lo m + hi m) * _
  rw [Int.add_mul]
  exact Int.add_le_add (Int.mul_le_mul_of_nonneg_left (ih _ _) (h0 m)) (Int.mul_le_mul_of_nonneg_left (ih _ _) (h1 m))

theorem wE_nonneg {lo hi:Nat → Int} (h0:∀ j,0 ≤ lo j) (h1:∀ j,0 ≤ hi j) (M:St) (f:Int) (e:Edge) (l:Int):0 ≤ wE lo hi M f e l:=wX_nonneg h0 h1 _ _ _ _

theorem wE_le {lo hi:Nat → Int} (h0:∀ j,0 ≤ lo j) (h1:∀ j,0 ≤ hi j) (M:St) (f:Int) (e:Edge) (l:Int):wE lo hi M f e l ≤ prW (bothW lo hi) l.toNat (M.n - l).toNat:=wX_le h0 h1 _ _ _ _

end Go.Proofs.YtpgcbmbnognieaaGreat
