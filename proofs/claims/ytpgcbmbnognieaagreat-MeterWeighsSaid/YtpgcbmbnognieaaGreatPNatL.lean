/-
  Plainly: what reckoning word by word, and digit by digit, comes to.
-/
import Derived.Test.YtpgcbmbnognieaaGreatPNatP
namespace Go.Proofs.YtpgcbmbnognieaaGreat
set_option linter.unusedSimpArgs false
set_option linter.unusedVariables false
set_option maxHeartbeats 600000

theorem WordsOk.tail {b:Nat} {x:Int} {l:List Int} (h:WordsOk b (x :: l)):WordsOk b l:=fun y hy=>h y (List.mem_cons_of_mem _ hy)

theorem WordsOk.head {b:Nat} {x:Int} {l:List Int} (h:WordsOk b (x :: l)):0 ≤ x ∧ x < b:=h x List.mem_cons_self

theorem WordsOk.cons {b:Nat} {x:Int} {l:List Int} (h1:0 ≤ x ∧ x < b) (h:WordsOk b l):WordsOk b (x :: l):=fun y hy=>by
 rcases List.mem_cons.1 hy with e | e
 ·rw [e];exact h1
 ·exact h y e

theorem WordsOk.drop {b:Nat} {l:List Int} (h:WordsOk b l) (n:Nat):WordsOk b (l.drop n):=fun x hx=>h x (List.mem_of_mem_drop hx)

theorem WordsOk.take {b:Nat} {l:List Int} (h:WordsOk b l) (n:Nat):WordsOk b (l.take n):=fun x hx=>h x (List.mem_of_mem_take hx)

theorem WordsOk.set {b:Nat} {l:List Int} (h:WordsOk b l) (n:Nat) {y:Int} (hy:0 ≤ y ∧ y < b):WordsOk b (l.set n y):=fun x hx=>by
 rcases List.mem_or_eq_of_mem_set hx with e | e
 ·exact h x e
 ·rw [e];exact hy

theorem wordsOk_zeros {b:Nat} (hb:0 < b) (n:Nat):WordsOk b (List.replicate n 0):=fun x hx=>by
 rw [List.eq_of_mem_replicate hx]
 omega

def dblL:List Int → Int → List Int
 | [],c=>if c > 0 then [c] else []
 | x :: l,c=>(2 * x + c) % 10 :: dblL l ((2 * x + c) / 10)

theorem dblL_val:∀ (l:List Int) (c:Int),0 ≤ c → valW 10 (dblL l c)=2 * valW 10 l + c ∨ ¬ WordsOk 10 l:=by
 intro l
 induction l with
 | nil=>
  intro c hc
  left
  unfold dblL
  split
  ·show c + 10 * 0=2 * 0 + c;omega
  ·show (0:Int)=2 * 0 + c;omega
 | cons x l ih=>
  intro c hc
  by_cases h:WordsOk 10 (x :: l)
  ·left
   have hx:=h.head
   rcases ih ((2 * x + c) / 10) (by omega) with e | e
   ·show (2 * x + c) % 10 + ((10:Nat):Int) * valW 10 (dblL l ((2 * x + c) / 10))=2 * (x + ((10:Nat):Int) * valW 10 l) + c
    rw [e]
    push_cast
    omega
   ·exact absurd h.tail e
  ·exact .inr h

theorem dblL_ok:∀ (l:List Int) (c:Int),0 ≤ c → c ≤ 1 → WordsOk 10 l → WordsOk 10 (dblL l c):=by
 intro l
 induction l with
 | nil=>
  intro c h0 h1 _
  unfold dblL
  split
  ·exact WordsOk.cons (by omega) (fun y hy=>by cases hy)
  ·intro y hy;cases hy
 | cons x l ih=>
  intro c h0 h1 h
  have hx:=h.head
  exact WordsOk.cons (by omega) (ih _ (by omega) (by omega) h.tail)

theorem dblL_nil {l:List Int} {c:Int} (h:dblL l c=[]):l=[]:=by
 cases l with
 | nil=>rfl
 | cons x l=>cases h

theorem dblL_trim:∀ (l:List Int) (c:Int),0 ≤ c → c ≤ 1 → WordsOk 10 l → Trim l → Trim (dblL l c):=by
 intro l
 induction l with
 | nil=>
  intro c h0 h1 _ _
  unfold dblL
  split
  ·intro e
   have:c=0:=by simpa using e
   omega
  ·exact trim_nil
 | cons x l ih=>
  intro c h0 h1 h ht
  have hx:=h.head
  have ih':=ih ((2 * x + c) / 10) (by omega) (by omega) h.tail (trim_tail ht)
  show Trim ((2 * x + c) % 10 :: dblL l ((2 * x + c) / 10))
  cases hd:dblL l ((2 * x + c) / 10) with
  | nil=>
   have hl:=dblL_nil hd
   subst hl
   unfold dblL at hd
   split at hd
   ·cases hd
   ·rename_i hc
    have hx0:x ≠ 0:=fun e=>ht (by rw [e];rfl)
    intro e
    have:(2 * x + c) % 10=0:=by simpa using e
    omega
  | cons y r=>
   rw [hd] at ih'
   intro e
   rw [List.getLast?_cons_cons] at e
   exact ih' e

theorem dblL_nat (v:Nat) (c:Int) (h0:0 ≤ c) (h1:c ≤ 1):dblL (natW 10 v) c=natW 10 (2 * v + c.toNat):=by
 have hok:=dblL_ok (natW 10 v) c h0 h1 (natW_ok (by decide) v)
 have ht:=dblL_trim (natW 10 v) c h0 h1 (natW_ok (by decide) v) (natW_trim (by decide) v)
 have hv:valW 10 (dblL (natW 10 v) c)=2 * valW 10 (natW 10 v) + c:=by
  rcases dblL_val (natW 10 v) c h0 with e | e
  ·exact e
  ·exact absurd (natW_ok (by decide) v) e
 rw [← natW_valW (by decide) hok ht,hv,valW_natW (by decide)]
 congr 1
 omega

theorem dblL_step {l os:List Int} {i:Nat} {x c:Int} {R:List Int} (h:os ++ dblL (l.drop i) c=R) (hx:l[i]?=some x):(os ++ [(2 * x + c) % 10]) ++ dblL (l.drop (i + 1)) ((2 * x + c) / 10)=R:=by
 have hi:=(List.getElem?_eq_some_iff.1 hx).1
 have hd:l.drop i=x :: l.drop (i + 1):=by
  rw [List.drop_eq_getElem_cons hi]
  congr 1
  exact (List.getElem?_eq_some_iff.1 hx).2
 rw [hd] at h
 rw [List.append_assoc]
 exact h

theorem dblL_end {l os:List Int} {c:Int} {R:List Int} (h:os ++ dblL (l.drop l.length) c=R):R=if c > 0 then os ++ [c] else os:=by
 rw [List.drop_length] at h
 rw [← h]
 show os ++ (if c > 0 then [c] else [])=_
 split
 ·rfl
 ·rw [List.append_nil]

def addB (b:Nat):Nat → List Int → List Int → Int → List Int
 | 0,_,_,c=>[c]
 | n + 1,x,y,c=>(x.headD 0 + y.headD 0 + c) % b :: addB b n x.tail y.tail ((x.headD 0 + y.headD 0 + c) / b)

theorem valW_ht (b:Nat) (l:List Int):valW b l=l.headD 0 + b * valW b l.tail:=by
 cases l with
 | nil=>show (0:Int)=0 + b * 0;omega
 | cons x l=>rfl

theorem addB_val (b:Nat):∀ (n:Nat) (x y:List Int) (c:Int),x.length ≤ n → y.length ≤ n → valW b (addB b n x y c)=valW b x + valW b y + c:=by
 intro n
 induction n with
 | zero=>
  intro x y c hx hy
  have:x=[]:=by simpa using hx
  have:y=[]:=by simpa using hy
  subst_vars
  show c + b * 0=0 + 0 + c
  omega
 | succ n ih=>
  intro x y c hx hy
  show (x.headD 0 + y.headD 0 + c) % b + b * valW b (addB b n x.tail y.tail ((x.headD 0 + y.headD 0 + c) / b))=_
  rw [ih _ _ _ (by rw [List.length_tail];omega) (by rw [List.length_tail];omega),valW_ht b x,valW_ht b y]
  have h:=Int.emod_add_mul_ediv (x.headD 0 + y.headD 0 + c) b
  rw [Int.mul_add,Int.mul_add]
  omega

theorem headD_ok {b:Nat} (hb:0 < b) {l:List Int} (h:WordsOk b l):0 ≤ l.headD 0 ∧ l.headD 0 < b:=by
 cases l with
 | nil=>show (0:Int) ≤ 0 ∧ (0:Int) < b;omega
 | cons x l=>exact h.head

theorem WordsOk.tl {b:Nat} {l:List Int} (h:WordsOk b l):WordsOk b l.tail:=by
 cases l with
 | nil=>exact h
 | cons x l=>exact h.tail

theorem add_carry {b:Nat} {x y c:Int} (hx:0 ≤ x ∧ x < b) (hy:0 ≤ y ∧ y < b) (hc:0 ≤ c ∧ c ≤ 1):0 ≤ (x + y + c) / b ∧ (x + y + c) / b ≤ 1:=by
 have hb:(0:Int) < b:=by omega
 refine ⟨Int.ediv_nonneg (by omega) (by omega),?_⟩
 have:(x + y + c) / b < 2:=Int.ediv_lt_of_lt_mul hb (by omega)
 omega

theorem addB_ok {b:Nat} (hb:2 ≤ b):∀ (n:Nat) (x y:List Int) (c:Int),0 ≤ c ∧ c ≤ 1 → WordsOk b x → WordsOk b y → WordsOk b (addB b n x y c):=by
 intro n
 induction n with
 | zero=>intro x y c hc _ _;exact WordsOk.cons (by omega) (fun y hy=>by cases hy)
 | succ n ih=>
  intro x y c hc hx hy
  have h1:=headD_ok (by omega) hx
  have h2:=headD_ok (by omega) hy
  exact WordsOk.cons ⟨Int.emod_nonneg _ (by omega),Int.emod_lt_of_pos _ (by omega)⟩ (ih _ _ _ (add_carry h1 h2 hc) hx.tl hy.tl)

theorem addB_len (b:Nat):∀ (n:Nat) (x y:List Int) (c:Int),(addB b n x y c).length=n + 1:=by
 intro n
 induction n with
 | zero=>intro x y c;rfl
 | succ n ih=>intro x y c;show (addB b n _ _ _).length + 1=_;rw [ih]

theorem drop_headD {l:List Int} {i:Nat} {x:Int} (h:l[i]?=some x):(l.drop i).headD 0=x:=by
 rw [List.headD_eq_head?_getD,List.head?_drop,h]
 rfl

theorem drop_headD_none {l:List Int} {i:Nat} (h:l.length ≤ i):(l.drop i).headD 0=0:=by
 rw [List.drop_of_length_le h]
 rfl

theorem addB_step {b n i:Nat} {x y os R:List Int} {c:Int} (hi:i < n) (h:os ++ addB b (n - i) (x.drop i) (y.drop i) c=R) :
  os ++ [((x.drop i).headD 0 + (y.drop i).headD 0 + c) % b] ++ addB b (n - (i + 1)) (x.drop (i + 1)) (y.drop (i + 1)) (((x.drop i).headD 0 + (y.drop i).headD 0 + c) / b)=R:=by
 rw [show n - i=(n - (i + 1)) + 1 by omega] at h
 rw [List.append_assoc,← h]
 show os ++ (_ :: addB b _ _ _ _)=os ++ (_ :: addB b _ (x.drop i).tail (y.drop i).tail _)
 rw [List.tail_drop,List.tail_drop]

def subB (b:Nat):List Int → List Int → Int → List Int
 | [],_,_=>[]
 | x :: l,y,c=>(x + b - y.headD 0 - c) % b :: subB b l y.tail (if x < y.headD 0 + c then 1 else 0)

def subC (b:Nat):List Int → List Int → Int → Int
 | [],_,c=>c
 | x :: l,y,c=>subC b l y.tail (if x < y.headD 0 + c then 1 else 0)

theorem subB_len (b:Nat):∀ (x y:List Int) (c:Int),(subB b x y c).length=x.length:=by
 intro x
 induction x with
 | nil=>intro y c;rfl
 | cons a l ih=>intro y c;show (subB b l _ _).length + 1=l.length + 1;rw [ih]

theorem subB_word {b:Nat} {x y c:Int} (hx:0 ≤ x ∧ x < b) (hy:0 ≤ y ∧ y < b) (hc:0 ≤ c ∧ c ≤ 1):(x + b - y - c) % b=x - y - c + b * (if x < y + c then 1 else 0):=by
 split
 ·rw [Int.mul_one,Int.emod_eq_of_lt (by omega) (by omega)]
  omega
 ·rw [show x + b - y - c=(x - y - c) + b by omega,Int.add_emod_right,Int.emod_eq_of_lt (by omega) (by omega)]
  omega

theorem subB_val {b:Nat} (hb:2 ≤ b):∀ (x y:List Int) (c:Int),WordsOk b x → WordsOk b y → y.length ≤ x.length → 0 ≤ c ∧ c ≤ 1 → valW b (subB b x y c) - (b:Int) ^ x.length * subC b x y c=valW b x - valW b y - c:=by
 intro x
 induction x with
 | nil=>
  intro y c _ _ hl _
  have:y=[]:=by simpa using hl
  subst this
  show (0:Int) - (b:Int) ^ 0 * c=0 - 0 - c
  rw [Int.pow_zero]
  omega
 | cons a l ih=>
  intro y c hx hy hl hc
  have h1:=hx.head
  have h2:=headD_ok (by omega) hy
  have hy':y.tail.length ≤ l.length:=by rw [List.length_tail];simp only [List.length_cons] at hl;omega
  have h3:=ih y.tail (if a < y.headD 0 + c then 1 else 0) hx.tail hy.tl hy' (by split <;> omega)
  show (a + b - y.headD 0 - c) % b + b * valW b (subB b l y.tail (if a < y.headD 0 + c then 1 else 0)) - (b:Int) ^ (l.length + 1) * subC b l y.tail (if a < y.headD 0 + c then 1 else 0)=a + b * valW b l - valW b y - c
  rw [subB_word h1 h2 hc,valW_ht b y,Int.pow_succ,Int.mul_comm ((b:Int) ^ l.length) b,Int.mul_assoc]
  generalize hk:(if a < y.headD 0 + c then (1:Int) else 0)=k at h3
  generalize valW b (subB b l y.tail k)=V at h3
  generalize (b:Int) ^ l.length * subC b l y.tail k=U at h3
  have h4:(b:Int) * (V - U)=b * (valW b l - valW b y.tail - k):=by rw [h3]
  rw [Int.mul_sub,Int.mul_sub,Int.mul_sub] at h4
  omega

theorem subB_ok {b:Nat} (hb:2 ≤ b):∀ (x y:List Int) (c:Int),WordsOk b (subB b x y c):=by
 intro x
 induction x with
 | nil=>intro y c z hz;cases hz
 | cons a l ih=>intro y c;exact WordsOk.cons ⟨Int.emod_nonneg _ (by omega),Int.emod_lt_of_pos _ (by omega)⟩ (ih _ _)

theorem subC_range (b:Nat):∀ (x y:List Int) (c:Int),0 ≤ c ∧ c ≤ 1 → 0 ≤ subC b x y c ∧ subC b x y c ≤ 1:=by
 intro x
 induction x with
 | nil=>intro y c h;exact h
 | cons a l ih=>intro y c h;exact ih _ _ (by split <;> omega)

theorem subB_whole {b:Nat} (hb:2 ≤ b) {x y:List Int} (hx:WordsOk b x) (hy:WordsOk b y) (hl:y.length ≤ x.length) (hle:valW b y ≤ valW b x):valW b (subB b x y 0)=valW b x - valW b y:=by
 have h:=subB_val hb x y 0 hx hy hl (by omega)
 have hr:=subC_range b x y 0 (by omega)
 have hlt:=valW_lt (subB_ok hb x y 0)
 rw [subB_len] at hlt
 have h0:subC b x y 0=0 ∨ subC b x y 0=1:=by omega
 rcases h0 with h0 | h0
 ·rw [h0] at h;omega
 ·rw [h0] at h;omega

theorem subB_step {b i:Nat} {x y os R:List Int} {c a:Int} (ha:x[i]?=some a) (h:os ++ subB b (x.drop i) (y.drop i) c=R) :
  os ++ [(a + b - (y.drop i).headD 0 - c) % b] ++ subB b (x.drop (i + 1)) (y.drop (i + 1)) (if a < (y.drop i).headD 0 + c then 1 else 0)=R:=by
 have hi:=(List.getElem?_eq_some_iff.1 ha).1
 have hd:x.drop i=a :: x.drop (i + 1):=by
  rw [List.drop_eq_getElem_cons hi]
  congr 1
  exact (List.getElem?_eq_some_iff.1 ha).2
 rw [hd] at h
 rw [List.append_assoc,← h]
 show os ++ (_ :: subB b _ _ _)=os ++ (_ :: subB b _ (y.drop i).tail _)
 rw [List.tail_drop]

def carB (b:Nat):List Int → Int → List Int
 | [],_=>[]
 | x :: l,c=>(x + c) % b :: carB b l ((x + c) / b)

def carC (b:Nat):List Int → Int → Int
 | [],c=>c
 | x :: l,c=>carC b l ((x + c) / b)

theorem carB_len (b:Nat):∀ (x:List Int) (c:Int),(carB b x c).length=x.length:=by
 intro x
 induction x with
 | nil=>intro c;rfl
 | cons a l ih=>intro c;show (carB b l _).length + 1=l.length + 1;rw [ih]

theorem carB_ok {b:Nat} (hb:2 ≤ b):∀ (x:List Int) (c:Int),WordsOk b (carB b x c):=by
 intro x
 induction x with
 | nil=>intro c z hz;cases hz
 | cons a l ih=>intro c;exact WordsOk.cons ⟨Int.emod_nonneg _ (by omega),Int.emod_lt_of_pos _ (by omega)⟩ (ih _)

theorem carB_val (b:Nat):∀ (x:List Int) (c:Int),valW b (carB b x c) + (b:Int) ^ x.length * carC b x c=valW b x + c:=by
 intro x
 induction x with
 | nil=>intro c;show (0:Int) + (b:Int) ^ 0 * c=0 + c;rw [Int.pow_zero];omega
 | cons a l ih=>
  intro c
  have h:=ih ((a + c) / b)
  show (a + c) % b + b * valW b (carB b l ((a + c) / b)) + (b:Int) ^ (l.length + 1) * carC b l ((a + c) / b)=a + b * valW b l + c
  rw [Int.pow_succ,Int.mul_comm ((b:Int) ^ l.length) b,Int.mul_assoc]
  have h2:=Int.emod_add_mul_ediv (a + c) b
  generalize (b:Int) ^ l.length * carC b l ((a + c) / b)=U at h
  generalize valW b (carB b l ((a + c) / b))=V at h
  have h4:(b:Int) * (V + U)=b * (valW b l + (a + c) / b):=by rw [h]
  rw [Int.mul_add,Int.mul_add] at h4
  omega

theorem carC_nonneg {b:Nat}:∀ (x:List Int) (c:Int),(∀ a ∈ x,0 ≤ a) → 0 ≤ c → 0 ≤ carC b x c:=by
 intro x
 induction x with
 | nil=>intro c _ h;exact h
 | cons a l ih=>intro c h hc;exact ih _ (fun y hy=>h y (List.mem_cons_of_mem _ hy)) (Int.ediv_nonneg (by have:=h a List.mem_cons_self;omega) (by omega))

theorem carB_whole {b:Nat} (hb:2 ≤ b) {x:List Int} (hx:∀ a ∈ x,0 ≤ a) (hlt:valW b x < (b:Int) ^ x.length):valW b (carB b x 0)=valW b x:=by
 have h:=carB_val b x 0
 have h0:=carC_nonneg (b:=b) x 0 hx (by omega)
 have h1:=valW_nonneg (carB_ok hb x 0)
 by_cases hz:carC b x 0=0
 ·rw [hz,Int.mul_zero] at h;omega
 ·have:(b:Int) ^ x.length * 1 ≤ (b:Int) ^ x.length * carC b x 0:=Int.mul_le_mul_of_nonneg_left (by omega) (Int.le_of_lt (Int.pow_pos (by omega)))
  omega

theorem carB_step {b i:Nat} {x os R:List Int} {c a:Int} (ha:x[i]?=some a) (h:os ++ carB b (x.drop i) c=R):os ++ [(a + c) % b] ++ carB b (x.drop (i + 1)) ((a + c) / b)=R:=by
 have hi:=(List.getElem?_eq_some_iff.1 ha).1
 have hd:x.drop i=a :: x.drop (i + 1):=by
  rw [List.drop_eq_getElem_cons hi]
  congr 1
  exact (List.getElem?_eq_some_iff.1 ha).2
 rw [hd] at h
 rw [List.append_assoc]
 exact h

theorem mul_word {b:Nat} {x y o c:Int} (hx:0 ≤ x ∧ x < b) (hy:0 ≤ y ∧ y < b) (ho:0 ≤ o ∧ o < b) (hc:0 ≤ c ∧ c < b):0 ≤ x * y + o + c ∧ (x * y + o + c) / b < b ∧ 0 ≤ (x * y + o + c) / b ∧ 0 ≤ (x * y + o + c) % b ∧ (x * y + o + c) % b < b:=by
 have hb:(0:Int) < b:=by omega
 have h0:=Int.mul_nonneg hx.1 hy.1
 have h1:x * y ≤ (b - 1) * (b - 1):=Int.mul_le_mul (by omega) (by omega) hy.1 (by omega)
 have h2:((b:Int) - 1) * (b - 1)=b * b - b - b + 1:=by rw [Int.mul_sub,Int.sub_mul];omega
 refine ⟨by omega,Int.ediv_lt_of_lt_mul hb (by omega),Int.ediv_nonneg (by omega) (by omega),Int.emod_nonneg _ (by omega),Int.emod_lt_of_pos _ hb⟩

theorem drop_cons {x:List Int} {i:Nat} {a:Int} (ha:x[i]?=some a):x.drop i=a :: x.drop (i + 1):=by
 have hi:=(List.getElem?_eq_some_iff.1 ha).1
 rw [List.drop_eq_getElem_cons hi]
 congr 1
 exact (List.getElem?_eq_some_iff.1 ha).2

theorem wset_take {l:List Int} {i:Nat} {y:Int} (h:i < l.length):(l.set i y).take (i + 1)=l.take i ++ [y]:=by
 rw [wtake_succ (x:=y) (by rw [List.getElem?_set_self h]),List.take_set_of_le (Nat.le_refl i)]

end Go.Proofs.YtpgcbmbnognieaaGreat
