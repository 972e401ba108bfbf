/-
  Rows of ints of one's own; slices.Clone, perm.Inverse, order.Of.
-/
import Derived.Test.YtpgcbmbnognieaaGreatPWordsR
import Derived.Lib.SliceRun
namespace Go.Proofs.YtpgcbmbnognieaaGreat
set_option linter.unusedSimpArgs false
set_option linter.unusedVariables false
set_option maxHeartbeats 600000
open Go.RowKit

def RowI (w:World) (g:Nat) (ps:List Int):Prop:=∃ cur:Array Value,w.heap[g]?=some (.cells cur 3 (0,0)) ∧ ∀ (i:Nat) (x:Int),ps[i]?=some x → cur[i]?=some (Value.int .i64 x)

theorem RowI.cell {w:World} {g:Nat} {ps:List Int} (h:RowI w g ps) {i:Nat} {x:Int} (hx:ps[i]?=some x):w.cell? ⟨g,i,none⟩=some (.int .i64 x):=by
 obtain ⟨cur,h1,h2⟩:=h
 rw [cell_of_row w g i _ _ _ h1]
 simp only [h2 i x hx]

theorem RowI.frozen {w:World} {g:Nat} {ps:List Int} (h:RowI w g ps) (i:Nat):w.frozen? ⟨g,i,none⟩=false:=by
 obtain ⟨cur,h1,h2⟩:=h
 exact frozen_of_row w g i _ _ h1

theorem RowI.lt {w:World} {g:Nat} {ps:List Int} (h:RowI w g ps):g < w.heap.size:=by
 obtain ⟨cur,h1,h2⟩:=h
 exact lt_of_heap h1

theorem RowI.keep {G:Nat → Prop} {w w':World} {g:Nat} {ps:List Int} (h:RowI w g ps) (hu:Upd G w w') (hg:¬ G g):RowI w' g ps:=by
 have hl:=h.lt
 obtain ⟨cur,h1,h2⟩:=h
 exact ⟨cur,(hu.block g hl hg).trans h1,h2⟩

theorem RowI.keeps {w w':World} {g:Nat} {ps:List Int} (h:RowI w g ps) (hk:Keeps w w'):RowI w' g ps:=h.keep (hk.upd (fun _=>False)) (fun h=>h)

theorem RowI.ints {w:World} {g:Nat} {ps:List Int} (h:RowI w g ps):IntsAt w (some ⟨g,0,none⟩) ps:=fun i x hx=>⟨g,0,rfl,by rw [Nat.zero_add];exact h.cell hx⟩

theorem RowI.set {w:World} {g:Nat} {ps:List Int} (h:RowI w g ps) (i:Nat) (y:Int) (hi:i < ps.length):RowI (w.setCell ⟨g,i,none⟩ (.int .i64 y)) g (ps.set i y):=by
 obtain ⟨cur,h1,h2⟩:=h
 refine ⟨_,Go.heap_setCell_same w g i _ _ (.int .i64 y) h1,fun j x hx=>?_⟩
 rw [Array.getElem?_setIfInBounds]
 by_cases hj:i=j
 ·subst hj
  have hc:=h2 i ps[i] (by simp [hi])
  have hs:i < cur.size:=(Array.getElem?_eq_some_iff.1 hc).1
  rw [if_pos rfl,if_pos hs]
  simp [hi] at hx
  rw [hx]
 ·rw [if_neg hj]
  rw [List.getElem?_set_ne hj] at hx
  exact h2 j x hx

theorem rowI_owns {w:World} {lo:Nat} {g:Nat} {n cap:Nat} {ps:List Int} (hown:w.ownsRow lo 3 1 (.slice (some ⟨g,0,none⟩) n cap) n (ps.map (Value.int .i64))):RowI w g ps ∧ lo ≤ g:=by
 obtain ⟨cur0,hcur0⟩:=owns_type hown (k:=g) rfl
 rcases hown.2 with ⟨h0,_⟩ | ⟨g',cap',cur,hv,hb,hg,_,_,hs,ht⟩
 ·cases h0
 ·cases hv
  refine ⟨⟨cur,hg,fun i x hx=>?_⟩,hb⟩
  have h1:(ps.map (Value.int .i64))[i]?=some (.int .i64 x):=by rw [List.getElem?_map,hx];rfl
  rw [← ht,List.getElem?_take] at h1
  split at h1
  ·rw [Array.getElem?_toList] at h1
   exact h1
  ·cases h1

def RowV (lo:Nat) (w:World) (a:Option Addr) (ps:List Int):Prop:=ps ≠ [] → ∃ g,a=some ⟨g,0,none⟩ ∧ lo ≤ g ∧ RowI w g ps

theorem RowV.ints {lo:Nat} {w:World} {a:Option Addr} {ps:List Int} (h:RowV lo w a ps):IntsAt w a ps:=fun i x hx=>by
 obtain ⟨g,ha,_,hr⟩:=h (fun e=>by rw [e] at hx;simp at hx)
 rw [ha]
 exact hr.ints i x hx

theorem info_int:(Tryz.prog.info? 3).map (fun i=>(i.zero,i.size,i.bytes))=some (some (.int .i64 0),1,8):=by kernel_rfl

theorem owns_none (w:World) (t:TypeId):(w.alloc (.cells #[] t)).ownsRow w.heap.size t 1 (.slice (some ⟨w.heap.size,0,none⟩) 0 0) 0 []:=
 ⟨rfl,.inr ⟨w.heap.size,0,#[],rfl,Nat.le_refl _,heap_alloc_new w _,Nat.le_refl _,by unfold maxLen;omega,rfl,rfl⟩⟩

set_option maxRecDepth 100000 in
theorem clone_calls (a:Option Addr) (cap:Nat) (ps:List Int) (w:World) (h:IntsAt w a ps) (hl:ps.length ≤ 1048576) :
  Calls Tryz.prog 98 #[.slice a ps.length cap] w fun e w'=>∃ a' cap',e=.returned (.slice a' ps.length cap') ∧ RowV w.heap.size w' a' ps ∧ Keeps w w':=by
 cases a with
 | none=>
  have hp:ps=[]:=by
   cases ps with
   | nil=>rfl
   | cons x l=>obtain ⟨b,off,ha,_⟩:=h 0 x rfl;cases ha
  subst hp
  clear h hl
  rw [List.length_nil]
  have hnil:=fun (W:World)=>Lib.run_eql_slice_nil (P:=Tryz.prog) W 38 3 none 0 cap 0 0 Tryz.underlying38
  go_enter Tryz.func98,Tryz.ntmps98
  go_wp2
  go_ret
  exact ⟨none,0,rfl,fun hn=>absurd rfl hn,Keeps.refl _⟩
 | some ad=>
  obtain ⟨i0,hi,hz0,hz1,hz2⟩:=info_parts info_int
  have hcells:∀ j u,(ps.map (Value.int .i64))[j]?=some u → w.cell? (ad.add j)=some u:=fun j u hj=>by
   rw [List.getElem?_map,Option.map_eq_some_iff] at hj
   obtain ⟨x,hx,rfl⟩:=hj
   obtain ⟨b,off,ha,hc⟩:=h j x hx
   cases ha
   have hadd:(⟨b,off,none⟩:Addr).add j=⟨b,off + j,none⟩:=by
    unfold Addr.add
    split
    ·rename_i h0
     rw [h0]
     rfl
    ·rfl
   rw [hadd]
   exact hc
  obtain ⟨N,hN⟩:∃ N,N=ps.length:=⟨_,rfl⟩
  rw [← hN] at hl ⊢
  have HC:=Lib.hid hcells
  have HN:=Lib.hid hN
  have h63:0 + N ≤ maxLen:=by unfold maxLen;omega
  clear h hcells hN
  have hnil:=fun (W:World)=>Lib.run_eql_slice_nil (P:=Tryz.prog) W 38 3 (some ad) N cap 0 0 Tryz.underlying38
  go_enter Tryz.func98,Tryz.ntmps98
  go_wp2_with (first
   | (at_builtin;refine wpList_append_fresh rfl _ _ 38 rfl w.heap.size 3 i0 (.int .i64 0) 1 8 Tryz.underlying38 hi hz0 hz1 hz2 rfl (by decide) (.slice (some ⟨w.heap.size,0,none⟩) 0 0) 0 [] rfl (owns_none w 3) ad N cap (ps.map (Value.int .i64)) rfl (by rw [List.length_map,← HN.out,Nat.mul_one]) (fun j u hj=>((Keeps.refl w).alloc _).cell (HC.out j u hj)) (fun u hu=>by rw [List.mem_map] at hu;obtain ⟨x,_,rfl⟩:=hu;rfl) h63 (by omega) (by simp) ?_;intro v' w3 hown3 hg3 hnew)
   | fail)
  obtain ⟨a',cap',rfl,ha'⟩:=owns_slice hown3
  go_wp2_with fail
  go_ret
  refine ⟨a',cap',by simp,fun hn=>?_,?_⟩
  ·obtain ⟨g,rfl⟩:=ha' (by rw [Nat.zero_add,HN.out];intro e;exact hn (List.length_eq_zero_iff.1 e))
   rw [List.nil_append] at hown3
   obtain ⟨r1,r2⟩:=rowI_owns hown3
   exact ⟨g,rfl,r2,r1⟩
  ·have hu:Upd (fun k=>k=w.heap.size) (w.alloc (.cells #[] 3)) w3:=⟨hg3.os,hg3.tape,hg3.output,hg3.size,fun k hk hn=>hg3.block k hk (fun e=>by simp [Value.ownBlock] at e;exact hn e)⟩
   exact ((((Keeps.refl w).alloc (.cells #[] 3)).upd _).trans' hu).keeps (fun k hk e=>by omega)

def WordsOk (b:Nat) (ws:List Int):Prop:=∀ x ∈ ws,0 ≤ x ∧ x < b

def valW (b:Nat):List Int → Int
 | []=>0
 | x :: l=>x + b * valW b l

theorem valW_append (b:Nat) (a c:List Int):valW b (a ++ c)=valW b a + (b:Int) ^ a.length * valW b c:=by
 induction a with
 | nil=>simp [valW]
 | cons x l ih=>
  show x + b * valW b (l ++ c)=x + b * valW b l + (b:Int) ^ (l.length + 1) * valW b c
  rw [ih,Int.mul_add,Int.pow_succ,← Int.mul_assoc,Int.mul_comm ((b:Int) ^ l.length) b,Int.add_assoc]

theorem valW_zeros (b k:Nat):valW b (List.replicate k 0)=0:=by
 induction k with
 | zero=>rfl
 | succ k ih=>
  rw [List.replicate_succ]
  show (0:Int) + b * valW b (List.replicate k 0)=0
  rw [ih]
  simp

theorem valW_nonneg {b:Nat}:∀ {a:List Int},WordsOk b a → 0 ≤ valW b a:=by
 intro a
 induction a with
 | nil=>intro _;exact Int.le_refl _
 | cons x l ih=>
  intro h
  have h1:=ih (fun y hy=>h y (List.mem_cons_of_mem _ hy))
  have h2:=h x List.mem_cons_self
  show 0 ≤ x + b * valW b l
  have:=Int.mul_nonneg (show (0:Int) ≤ b by omega) h1
  omega

theorem valW_lt {b:Nat}:∀ {a:List Int},WordsOk b a → valW b a < (b:Int) ^ a.length:=by
 intro a
 induction a with
 | nil=>intro _;exact Int.zero_lt_one
 | cons x l ih=>
  intro h
  have h1:=ih (fun y hy=>h y (List.mem_cons_of_mem _ hy))
  have h2:=h x List.mem_cons_self
  show x + b * valW b l < (b:Int) ^ (l.length + 1)
  rw [Int.pow_succ,Int.mul_comm _ (b:Int)]
  have:=Int.mul_le_mul_of_nonneg_left (show valW b l + 1 ≤ (b:Int) ^ l.length from h1) (show (0:Int) ≤ b by omega)
  rw [Int.mul_add,Int.mul_one] at this
  omega

def natW (b:Nat) (v:Nat):List Int:=if h:v=0 ∨ b < 2 then [] else ((v % b:Nat):Int) :: natW b (v / b)
termination_by v
decreasing_by exact Nat.div_lt_self (by omega) (by omega)

theorem natW_zero (b:Nat):natW b 0=[]:=by rw [natW];simp

theorem natW_pos {b v:Nat} (h:v ≠ 0) (hb:2 ≤ b):natW b v=((v % b:Nat):Int) :: natW b (v / b):=by rw [natW,dif_neg (by omega)]

theorem valW_natW {b:Nat} (hb:2 ≤ b):∀ v:Nat,valW b (natW b v)=v:=by
 intro v
 induction v using Nat.strongRecOn with
 | _ v ih=>
  by_cases h:v=0
  ·rw [h,natW_zero];rfl
  ·rw [natW_pos h hb]
   show ((v % b:Nat):Int) + b * valW b (natW b (v / b))=v
   rw [ih _ (Nat.div_lt_self (by omega) (by omega))]
   have:=Nat.mod_add_div v b
   omega

theorem natW_ok {b:Nat} (hb:2 ≤ b):∀ v:Nat,WordsOk b (natW b v):=by
 intro v
 induction v using Nat.strongRecOn with
 | _ v ih=>
  by_cases h:v=0
  ·rw [h,natW_zero];intro x hx;cases hx
  ·rw [natW_pos h hb]
   intro x hx
   rcases List.mem_cons.1 hx with hx | hx
   ·have:=Nat.mod_lt v (show b > 0 by omega)
    omega
   ·exact ih _ (Nat.div_lt_self (by omega) (by omega)) x hx

def Trim (ws:List Int):Prop:=ws.getLast? ≠ some 0

theorem trim_nil:Trim []:=by intro h;cases h

theorem trim_tail {x:Int} {l:List Int} (h:Trim (x :: l)):Trim l:=by
 cases l with
 | nil=>exact trim_nil
 | cons y l=>intro e;exact h (by rw [List.getLast?_cons_cons];exact e)

theorem valW_pos {b:Nat} (hb:2 ≤ b) {ws:List Int} (ho:WordsOk b ws) (ht:Trim ws) (hn:ws ≠ []):0 < valW b ws:=by
 induction ws with
 | nil=>exact absurd rfl hn
 | cons x l ih=>
  show 0 < x + b * valW b l
  cases l with
  | nil=>
   have:=ho x List.mem_cons_self
   have hx:x ≠ 0:=fun e=>ht (by rw [e];rfl)
   show 0 < x + b * 0
   omega
  | cons y l=>
   have h1:=ih (fun z hz=>ho z (List.mem_cons_of_mem _ hz)) (trim_tail ht) (by simp)
   have h2:=ho x List.mem_cons_self
   have:=Int.mul_pos (show (0:Int) < b by omega) h1
   omega

theorem natW_valW {b:Nat} (hb:2 ≤ b):∀ {ws:List Int},WordsOk b ws → Trim ws → natW b (valW b ws).toNat=ws:=by
 intro ws
 induction ws with
 | nil=>intro _ _;exact natW_zero b
 | cons x l ih=>
  intro ho ht
  have hx:=ho x List.mem_cons_self
  have ho':WordsOk b l:=fun z hz=>ho z (List.mem_cons_of_mem _ hz)
  have hp:=valW_pos hb ho ht (by simp)
  have hl:=valW_nonneg ho'
  obtain ⟨n,hn⟩:∃ n:Nat,valW b l=(n:Int):=⟨(valW b l).toNat,by omega⟩
  obtain ⟨k,hk⟩:∃ k:Nat,x=(k:Int):=⟨x.toNat,by omega⟩
  have e0:(valW b (x :: l)).toNat=k + b * n:=by
   show (x + b * valW b l).toNat=_
   rw [hn,hk,← Int.natCast_mul,← Int.natCast_add,Int.toNat_natCast]
  have ih':=ih ho' (trim_tail ht)
  rw [hn,Int.toNat_natCast] at ih'
  rw [natW_pos (by omega) hb,e0,Nat.add_mul_mod_self_left,Nat.mod_eq_of_lt (by omega),Nat.add_mul_div_left _ _ (by omega),Nat.div_eq_of_lt (by omega),Nat.zero_add,ih',hk]

theorem natW_trim {b:Nat} (hb:2 ≤ b):∀ v:Nat,Trim (natW b v):=by
 intro v
 induction v using Nat.strongRecOn with
 | _ v ih=>
  by_cases h:v=0
  ·rw [h,natW_zero];exact trim_nil
  ·rw [natW_pos h hb]
   have h1:=ih _ (Nat.div_lt_self (show 0 < v by omega) (show 1 < b by omega))
   by_cases h2:v / b=0
   ·rw [h2,natW_zero]
    intro e
    have e2:((v % b:Nat):Int)=0:=by simpa using e
    have e3:=Nat.mod_add_div v b
    rw [h2,Nat.mul_zero] at e3
    omega
   ·rw [natW_pos h2 hb] at h1 ⊢
    intro e
    rw [List.getLast?_cons_cons] at e
    exact h1 e

theorem natW_len {b:Nat} (hb:2 ≤ b) {v k:Nat} (h:v < b ^ k):(natW b v).length ≤ k:=by
 induction k generalizing v with
 | zero=>
  have:v=0:=by simp at h;exact h
  rw [this,natW_zero]
  exact Nat.le_refl _
 | succ k ih=>
  by_cases h0:v=0
  ·rw [h0,natW_zero];exact Nat.zero_le _
  ·rw [natW_pos h0 hb]
   have:v / b < b ^ k:=by
    rw [Nat.div_lt_iff_lt_mul (by omega),← Nat.pow_succ]
    exact h
   have:=ih this
   simp only [List.length_cons]
   omega

theorem natW_lt {b:Nat} (hb:2 ≤ b) {v k:Nat} (h:(natW b v).length ≤ k):v < b ^ k:=by
 have:=valW_lt (natW_ok hb v)
 rw [valW_natW hb] at this
 have h2:v < b ^ (natW b v).length:=by
  have e:((b ^ (natW b v).length:Nat):Int)=(b:Int) ^ (natW b v).length:=Int.natCast_pow _ _
  omega
 exact Nat.lt_of_lt_of_le h2 (Nat.pow_le_pow_right (by omega) h)

theorem wtake_zero {b:Nat} {ws:List Int} {n:Nat} (h:∀ i x,n ≤ i → ws[i]?=some x → x=0):valW b (ws.take n)=valW b ws:=by
 have e:ws=ws.take n ++ List.replicate (ws.length - n) 0:=by
  conv=>lhs;rw [← List.take_append_drop n ws]
  congr 1
  refine List.eq_replicate_iff.2 ⟨List.length_drop,fun x hx=>?_⟩
  obtain ⟨i,hi⟩:=List.mem_iff_getElem?.1 hx
  rw [List.getElem?_drop] at hi
  exact h _ x (by omega) hi
 conv=>rhs;rw [e,valW_append,valW_zeros,Int.mul_zero,Int.add_zero]

theorem wtake_trim {b:Nat} (hb:2 ≤ b) {ws:List Int} {n:Nat} (ho:WordsOk b ws) (hn:n ≤ ws.length) (h:∀ i x,n ≤ i → ws[i]?=some x → x=0) (hl:n=0 ∨ ∃ x,ws[n - 1]?=some x ∧ x ≠ 0):ws.take n=natW b (valW b ws).toNat:=by
 rw [← wtake_zero h]
 refine (natW_valW hb (fun x hx=>ho x (List.mem_of_mem_take hx)) ?_).symm
 rcases hl with hl | ⟨x,hx,hne⟩
 ·rw [hl];exact trim_nil
 ·intro e
  rw [List.getLast?_eq_getElem?,List.length_take,Nat.min_eq_left hn,List.getElem?_take] at e
  split at e
  ·rw [hx] at e
   exact hne (Option.some.inj e)
  ·cases e

theorem wtake_succ {ws:List Int} {i:Nat} {x:Int} (h:ws[i]?=some x):ws.take (i + 1)=ws.take i ++ [x]:=by
 rw [List.take_add_one,h]
 rfl

theorem valW_succ (b:Nat) {ws:List Int} {i:Nat} {x:Int} (h:ws[i]?=some x):valW b (ws.take (i + 1))=valW b (ws.take i) + (b:Int) ^ i * x:=by
 have hi:i < ws.length:=(List.getElem?_eq_some_iff.1 h).1
 rw [wtake_succ h,valW_append,List.length_take,Nat.min_eq_left (by omega)]
 show _ + _ * (x + b * 0)=_
 rw [Int.mul_zero,Int.add_zero]

theorem valW_set (b:Nat) {ws:List Int} {i:Nat} {x y:Int} (h:ws[i]?=some x):valW b (ws.set i y)=valW b ws + (b:Int) ^ i * (y - x):=by
 induction ws generalizing i with
 | nil=>simp at h
 | cons z l ih=>
  cases i with
  | zero=>
   simp at h
   subst h
   show y + b * valW b l=z + b * valW b l + (b:Int) ^ 0 * (y - z)
   simp
   omega
  | succ i=>
   simp at h
   show z + b * valW b (l.set i y)=z + b * valW b l + (b:Int) ^ (i + 1) * (y - x)
   rw [ih h,Int.mul_add,Int.pow_succ,Int.mul_comm ((b:Int) ^ i) b,Int.mul_assoc,Int.add_assoc]

theorem WordsOk.tail {b:Nat} {x:Int} {l:List Int} (h:WordsOk b (x :: l)):WordsOk b l:=fun y hy=>h y (List.mem_cons_of_mem _ hy)

theorem WordsOk.head {b:Nat} {x:Int} {l:List Int} (h:WordsOk b (x :: l)):0 ≤ x ∧ x < b:=h x List.mem_cons_self

theorem WordsOk.cons {b:Nat} {x:Int} {l:List Int} (h1:0 ≤ x ∧ x < b) (h:WordsOk b l):WordsOk b (x :: l):=fun y hy=>by
 rcases List.mem_cons.1 hy with e | e
 ·rw [e];exact h1
 ·exact h y e

theorem WordsOk.drop {b:Nat} {l:List Int} (h:WordsOk b l) (n:Nat):WordsOk b (l.drop n):=fun x hx=>h x (List.mem_of_mem_drop hx)

theorem WordsOk.take {b:Nat} {l:List Int} (h:WordsOk b l) (n:Nat):WordsOk b (l.take n):=fun x hx=>h x (List.mem_of_mem_take hx)

theorem WordsOk.set {b:Nat} {l:List Int} (h:WordsOk b l) (n:Nat) {y:Int} (hy:0 ≤ y ∧ y < b):WordsOk b (l.set n y):=fun x hx=>by
 rcases List.mem_or_eq_of_mem_set hx with e | e
 ·exact h x e
 ·rw [e];exact hy

theorem wordsOk_zeros {b:Nat} (hb:0 < b) (n:Nat):WordsOk b (List.replicate n 0):=fun x hx=>by
 rw [List.eq_of_mem_replicate hx]
 omega

def dblL:List Int → Int → List Int
 | [],c=>if c > 0 then [c] else []
 | x :: l,c=>(2 * x + c) % 10 :: dblL l ((2 * x + c) / 10)

theorem dblL_val:∀ (l:List Int) (c:Int),0 ≤ c → valW 10 (dblL l c)=2 * valW 10 l + c ∨ ¬ WordsOk 10 l:=by
 intro l
 induction l with
 | nil=>
  intro c hc
  left
  unfold dblL
  split
  ·show c + 10 * 0=2 * 0 + c;omega
  ·show (0:Int)=2 * 0 + c;omega
 | cons x l ih=>
  intro c hc
  by_cases h:WordsOk 10 (x :: l)
  ·left
   have hx:=h.head
   rcases ih ((2 * x + c) / 10) (by omega) with e | e
   ·show (2 * x + c) % 10 + ((10:Nat):Int) * valW 10 (dblL l ((2 * x + c) / 10))=2 * (x + ((10:Nat):Int) * valW 10 l) + c
    rw [e]
    push_cast
    omega
   ·exact absurd h.tail e
  ·exact .inr h

theorem dblL_ok:∀ (l:List Int) (c:Int),0 ≤ c → c ≤ 1 → WordsOk 10 l → WordsOk 10 (dblL l c):=by
 intro l
 induction l with
 | nil=>
  intro c h0 h1 _
  unfold dblL
  split
  ·exact WordsOk.cons (by omega) (fun y hy=>by cases hy)
  ·intro y hy;cases hy
 | cons x l ih=>
  intro c h0 h1 h
  have hx:=h.head
  exact WordsOk.cons (by omega) (ih _ (by omega) (by omega) h.tail)

theorem dblL_nil {l:List Int} {c:Int} (h:dblL l c=[]):l=[]:=by
 cases l with
 | nil=>rfl
 | cons x l=>cases h

theorem dblL_trim:∀ (l:List Int) (c:Int),0 ≤ c → c ≤ 1 → WordsOk 10 l → Trim l → Trim (dblL l c):=by
 intro l
 induction l with
 | nil=>
  intro c h0 h1 _ _
  unfold dblL
  split
  ·intro e
   have:c=0:=by simpa using e
   omega
  ·exact trim_nil
 | cons x l ih=>
  intro c h0 h1 h ht
  have hx:=h.head
  have ih':=ih ((2 * x + c) / 10) (by omega) (by omega) h.tail (trim_tail ht)
  show Trim ((2 * x + c) % 10 :: dblL l ((2 * x + c) / 10))
  cases hd:dblL l ((2 * x + c) / 10) with
  | nil=>
   have hl:=dblL_nil hd
   subst hl
   unfold dblL at hd
   split at hd
   ·cases hd
   ·rename_i hc
    have hx0:x ≠ 0:=fun e=>ht (by rw [e];rfl)
    intro e
    have:(2 * x + c) % 10=0:=by simpa using e
    omega
  | cons y r=>
   rw [hd] at ih'
   intro e
   rw [List.getLast?_cons_cons] at e
   exact ih' e

theorem dblL_nat (v:Nat) (c:Int) (h0:0 ≤ c) (h1:c ≤ 1):dblL (natW 10 v) c=natW 10 (2 * v + c.toNat):=by
 have hok:=dblL_ok (natW 10 v) c h0 h1 (natW_ok (by decide) v)
 have ht:=dblL_trim (natW 10 v) c h0 h1 (natW_ok (by decide) v) (natW_trim (by decide) v)
 have hv:valW 10 (dblL (natW 10 v) c)=2 * valW 10 (natW 10 v) + c:=by
  rcases dblL_val (natW 10 v) c h0 with e | e
  ·exact e
  ·exact absurd (natW_ok (by decide) v) e
 rw [← natW_valW (by decide) hok ht,hv,valW_natW (by decide)]
 congr 1
 omega

theorem dblL_step {l os:List Int} {i:Nat} {x c:Int} {R:List Int} (h:os ++ dblL (l.drop i) c=R) (hx:l[i]?=some x):(os ++ [(2 * x + c) % 10]) ++ dblL (l.drop (i + 1)) ((2 * x + c) / 10)=R:=by
 have hi:=(List.getElem?_eq_some_iff.1 hx).1
 have hd:l.drop i=x :: l.drop (i + 1):=by
  rw [List.drop_eq_getElem_cons hi]
  congr 1
  exact (List.getElem?_eq_some_iff.1 hx).2
 rw [hd] at h
 rw [List.append_assoc]
 exact h

theorem dblL_end {l os:List Int} {c:Int} {R:List Int} (h:os ++ dblL (l.drop l.length) c=R):R=if c > 0 then os ++ [c] else os:=by
 rw [List.drop_length] at h
 rw [← h]
 show os ++ (if c > 0 then [c] else [])=_
 split
 ·rfl
 ·rw [List.append_nil]

def addB (b:Nat):Nat → List Int → List Int → Int → List Int
 | 0,_,_,c=>[c]
 | n + 1,x,y,c=>(x.headD 0 + y.headD 0 + c) % b :: addB b n x.tail y.tail ((x.headD 0 + y.headD 0 + c) / b)

theorem valW_ht (b:Nat) (l:List Int):valW b l=l.headD 0 + b * valW b l.tail:=by
 cases l with
 | nil=>show (0:Int)=0 + b * 0;omega
 | cons x l=>rfl

theorem addB_val (b:Nat):∀ (n:Nat) (x y:List Int) (c:Int),x.length ≤ n → y.length ≤ n → valW b (addB b n x y c)=valW b x + valW b y + c:=by
 intro n
 induction n with
 | zero=>
  intro x y c hx hy
  have:x=[]:=by simpa using hx
  have:y=[]:=by simpa using hy
  subst_vars
  show c + b * 0=0 + 0 + c
  omega
 | succ n ih=>
  intro x y c hx hy
  show (x.headD 0 + y.headD 0 + c) % b + b * valW b (addB b n x.tail y.tail ((x.headD 0 + y.headD 0 + c) / b))=_
  rw [ih _ _ _ (by rw [List.length_tail];omega) (by rw [List.length_tail];omega),valW_ht b x,valW_ht b y]
  have h:=Int.emod_add_mul_ediv (x.headD 0 + y.headD 0 + c) b
  rw [Int.mul_add,Int.mul_add]
  omega

theorem headD_ok {b:Nat} (hb:0 < b) {l:List Int} (h:WordsOk b l):0 ≤ l.headD 0 ∧ l.headD 0 < b:=by
 cases l with
 | nil=>show (0:Int) ≤ 0 ∧ (0:Int) < b;omega
 | cons x l=>exact h.head

theorem WordsOk.tl {b:Nat} {l:List Int} (h:WordsOk b l):WordsOk b l.tail:=by
 cases l with
 | nil=>exact h
 | cons x l=>exact h.tail

theorem add_carry {b:Nat} {x y c:Int} (hx:0 ≤ x ∧ x < b) (hy:0 ≤ y ∧ y < b) (hc:0 ≤ c ∧ c ≤ 1):0 ≤ (x + y + c) / b ∧ (x + y + c) / b ≤ 1:=by
 have hb:(0:Int) < b:=by omega
 refine ⟨Int.ediv_nonneg (by omega) (by omega),?_⟩
 have:(x + y + c) / b < 2:=Int.ediv_lt_of_lt_mul hb (by omega)
 omega

theorem addB_ok {b:Nat} (hb:2 ≤ b):∀ (n:Nat) (x y:List Int) (c:Int),0 ≤ c ∧ c ≤ 1 → WordsOk b x → WordsOk b y → WordsOk b (addB b n x y c):=by
 intro n
 induction n with
 | zero=>intro x y c hc _ _;exact WordsOk.cons (by omega) (fun y hy=>by cases hy)
 | succ n ih=>
  intro x y c hc hx hy
  have h1:=headD_ok (by omega) hx
  have h2:=headD_ok (by omega) hy
  exact WordsOk.cons ⟨Int.emod_nonneg _ (by omega),Int.emod_lt_of_pos _ (by omega)⟩ (ih _ _ _ (add_carry h1 h2 hc) hx.tl hy.tl)

theorem addB_len (b:Nat):∀ (n:Nat) (x y:List Int) (c:Int),(addB b n x y c).length=n + 1:=by
 intro n
 induction n with
 | zero=>intro x y c;rfl
 | succ n ih=>intro x y c;show (addB b n _ _ _).length + 1=_;rw [ih]

theorem drop_headD {l:List Int} {i:Nat} {x:Int} (h:l[i]?=some x):(l.drop i).headD 0=x:=by
 rw [List.headD_eq_head?_getD,List.head?_drop,h]
 rfl

theorem drop_headD_none {l:List Int} {i:Nat} (h:l.length ≤ i):(l.drop i).headD 0=0:=by
 rw [List.drop_of_length_le h]
 rfl

theorem addB_step {b n i:Nat} {x y os R:List Int} {c:Int} (hi:i < n) (h:os ++ addB b (n - i) (x.drop i) (y.drop i) c=R) :
  os ++ [((x.drop i).headD 0 + (y.drop i).headD 0 + c) % b] ++ addB b (n - (i + 1)) (x.drop (i + 1)) (y.drop (i + 1)) (((x.drop i).headD 0 + (y.drop i).headD 0 + c) / b)=R:=by
 rw [show n - i=(n - (i + 1)) + 1 by omega] at h
 rw [List.append_assoc,← h]
 show os ++ (_ :: addB b _ _ _ _)=os ++ (_ :: addB b _ (x.drop i).tail (y.drop i).tail _)
 rw [List.tail_drop,List.tail_drop]

def subB (b:Nat):List Int → List Int → Int → List Int
 | [],_,_=>[]
 | x :: l,y,c=>(x + b - y.headD 0 - c) % b :: subB b l y.tail (if x < y.headD 0 + c then 1 else 0)

def subC (b:Nat):List Int → List Int → Int → Int
 | [],_,c=>c
 | x :: l,y,c=>subC b l y.tail (if x < y.headD 0 + c then 1 else 0)

theorem subB_len (b:Nat):∀ (x y:List Int) (c:Int),(subB b x y c).length=x.length:=by
 intro x
 induction x with
 | nil=>intro y c;rfl
 | cons a l ih=>intro y c;show (subB b l _ _).length + 1=l.length + 1;rw [ih]

theorem subB_word {b:Nat} {x y c:Int} (hx:0 ≤ x ∧ x < b) (hy:0 ≤ y ∧ y < b) (hc:0 ≤ c ∧ c ≤ 1):(x + b - y - c) % b=x - y - c + b * (if x < y + c then 1 else 0):=by
 split
 ·rw [Int.mul_one,Int.emod_eq_of_lt (by omega) (by omega)]
  omega
 ·rw [show x + b - y - c=(x - y - c) + b by omega,Int.add_emod_right,Int.emod_eq_of_lt (by omega) (by omega)]
  omega

theorem subB_val {b:Nat} (hb:2 ≤ b):∀ (x y:List Int) (c:Int),WordsOk b x → WordsOk b y → y.length ≤ x.length → 0 ≤ c ∧ c ≤ 1 → valW b (subB b x y c) - (b:Int) ^ x.length * subC b x y c=valW b x - valW b y - c:=by
 intro x
 induction x with
 | nil=>
  intro y c _ _ hl _
  have:y=[]:=by simpa using hl
  subst this
  show (0:Int) - (b:Int) ^ 0 * c=0 - 0 - c
  rw [Int.pow_zero]
  omega
 | cons a l ih=>
  intro y c hx hy hl hc
  have h1:=hx.head
  have h2:=headD_ok (by omega) hy
  have hy':y.tail.length ≤ l.length:=by rw [List.length_tail];simp only [List.length_cons] at hl;omega
  have h3:=ih y.tail (if a < y.headD 0 + c then 1 else 0) hx.tail hy.tl hy' (by split <;> omega)
  show (a + b - y.headD 0 - c) % b + b * valW b (subB b l y.tail (if a < y.headD 0 + c then 1 else 0)) - (b:Int) ^ (l.length + 1) * subC b l y.tail (if a < y.headD 0 + c then 1 else 0)=a + b * valW b l - valW b y - c
  rw [subB_word h1 h2 hc,valW_ht b y,Int.pow_succ,Int.mul_comm ((b:Int) ^ l.length) b,Int.mul_assoc]
  generalize hk:(if a < y.headD 0 + c then (1:Int) else 0)=k at h3
  generalize valW b (subB b l y.tail k)=V at h3
  generalize (b:Int) ^ l.length * subC b l y.tail k=U at h3
  have h4:(b:Int) * (V - U)=b * (valW b l - valW b y.tail - k):=by rw [h3]
  rw [Int.mul_sub,Int.mul_sub,Int.mul_sub] at h4
  omega

theorem subB_ok {b:Nat} (hb:2 ≤ b):∀ (x y:List Int) (c:Int),WordsOk b (subB b x y c):=by
 intro x
 induction x with
 | nil=>intro y c z hz;cases hz
 | cons a l ih=>intro y c;exact WordsOk.cons ⟨Int.emod_nonneg _ (by omega),Int.emod_lt_of_pos _ (by omega)⟩ (ih _ _)

theorem subC_range (b:Nat):∀ (x y:List Int) (c:Int),0 ≤ c ∧ c ≤ 1 → 0 ≤ subC b x y c ∧ subC b x y c ≤ 1:=by
 intro x
 induction x with
 | nil=>intro y c h;exact h
 | cons a l ih=>intro y c h;exact ih _ _ (by split <;> omega)

theorem subB_whole {b:Nat} (hb:2 ≤ b) {x y:List Int} (hx:WordsOk b x) (hy:WordsOk b y) (hl:y.length ≤ x.length) (hle:valW b y ≤ valW b x):valW b (subB b x y 0)=valW b x - valW b y:=by
 have h:=subB_val hb x y 0 hx hy hl (by omega)
 have hr:=subC_range b x y 0 (by omega)
 have hlt:=valW_lt (subB_ok hb x y 0)
 rw [subB_len] at hlt
 have h0:subC b x y 0=0 ∨ subC b x y 0=1:=by omega
 rcases h0 with h0 | h0
 ·rw [h0] at h;omega
 ·rw [h0] at h;omega

theorem subB_step {b i:Nat} {x y os R:List Int} {c a:Int} (ha:x[i]?=some a) (h:os ++ subB b (x.drop i) (y.drop i) c=R) :
  os ++ [(a + b - (y.drop i).headD 0 - c) % b] ++ subB b (x.drop (i + 1)) (y.drop (i + 1)) (if a < (y.drop i).headD 0 + c then 1 else 0)=R:=by
 have hi:=(List.getElem?_eq_some_iff.1 ha).1
 have hd:x.drop i=a :: x.drop (i + 1):=by
  rw [List.drop_eq_getElem_cons hi]
  congr 1
  exact (List.getElem?_eq_some_iff.1 ha).2
 rw [hd] at h
 rw [List.append_assoc,← h]
 show os ++ (_ :: subB b _ _ _)=os ++ (_ :: subB b _ (y.drop i).tail _)
 rw [List.tail_drop]

theorem mul_word {b:Nat} {x y o c:Int} (hx:0 ≤ x ∧ x < b) (hy:0 ≤ y ∧ y < b) (ho:0 ≤ o ∧ o < b) (hc:0 ≤ c ∧ c < b):0 ≤ x * y + o + c ∧ (x * y + o + c) / b < b ∧ 0 ≤ (x * y + o + c) / b ∧ 0 ≤ (x * y + o + c) % b ∧ (x * y + o + c) % b < b:=by
 have hb:(0:Int) < b:=by omega
 have h0:=Int.mul_nonneg hx.1 hy.1
 have h1:x * y ≤ (b - 1) * (b - 1):=Int.mul_le_mul (by omega) (by omega) hy.1 (by omega)
 have h2:((b:Int) - 1) * (b - 1)=b * b - b - b + 1:=by rw [Int.mul_sub,Int.sub_mul];omega
 refine ⟨by omega,Int.ediv_lt_of_lt_mul hb (by omega),Int.ediv_nonneg (by omega) (by omega),Int.emod_nonneg _ (by omega),Int.emod_lt_of_pos _ hb⟩

theorem div_word {b m:Nat} {r x:Int} (hr:0 ≤ r ∧ r < m) (hx:0 ≤ x ∧ x < b):0 ≤ (r * b + x) / m ∧ (r * b + x) / m < b ∧ 0 ≤ (r * b + x) % m ∧ (r * b + x) % m < m:=by
 have h0:=Int.mul_nonneg hr.1 (show (0:Int) ≤ b by omega)
 have h1:(r + 1) * b ≤ m * b:=Int.mul_le_mul_of_nonneg_right (by omega) (by omega)
 rw [Int.add_mul,Int.one_mul] at h1
 exact ⟨Int.ediv_nonneg (by omega) (by omega),Int.ediv_lt_of_lt_mul (by omega) (by rw [Int.mul_comm (b:Int) m];omega),Int.emod_nonneg _ (by omega),Int.emod_lt_of_pos _ (by omega)⟩

theorem drop_cons {x:List Int} {i:Nat} {a:Int} (ha:x[i]?=some a):x.drop i=a :: x.drop (i + 1):=by
 have hi:=(List.getElem?_eq_some_iff.1 ha).1
 rw [List.drop_eq_getElem_cons hi]
 congr 1
 exact (List.getElem?_eq_some_iff.1 ha).2

def divR (b m:Nat):List Int → Int
 | []=>0
 | x :: l=>(divR b m l * b + x) % m

def divQ (b m:Nat):List Int → List Int
 | []=>[]
 | x :: l=>(divR b m l * b + x) / m :: divQ b m l

theorem divQ_len (b m:Nat):∀ x:List Int,(divQ b m x).length=x.length:=by
 intro x
 induction x with
 | nil=>rfl
 | cons a l ih=>show (divQ b m l).length + 1=l.length + 1;rw [ih]

theorem divR_range {b m:Nat} (hm:0 < m):∀ x:List Int,0 ≤ divR b m x ∧ divR b m x < m:=by
 intro x
 cases x with
 | nil=>show (0:Int) ≤ 0 ∧ (0:Int) < m;omega
 | cons a l=>exact ⟨Int.emod_nonneg _ (by omega),Int.emod_lt_of_pos _ (by omega)⟩

theorem divQ_ok {b m:Nat} (hm:0 < m):∀ x:List Int,WordsOk b x → WordsOk b (divQ b m x):=by
 intro x
 induction x with
 | nil=>intro _ z hz;cases hz
 | cons a l ih=>
  intro h
  have h1:=div_word (divR_range (b:=b) hm l) h.head
  exact WordsOk.cons ⟨h1.1,h1.2.1⟩ (ih h.tail)

theorem divQ_val {b m:Nat}:∀ x:List Int,valW b (divQ b m x) * m + divR b m x=valW b x:=by
 intro x
 induction x with
 | nil=>show (0:Int) * m + 0=0;rw [Int.zero_mul];rfl
 | cons a l ih=>
  show ((divR b m l * b + a) / m + b * valW b (divQ b m l)) * m + (divR b m l * b + a) % m=a + b * valW b l
  have h:=Int.emod_add_mul_ediv (divR b m l * b + a) m
  have h2:(b:Int) * (valW b (divQ b m l) * m + divR b m l)=b * valW b l:=by rw [ih]
  rw [Int.mul_add,Int.mul_comm (b:Int) (divR b m l),← Int.mul_assoc] at h2
  rw [Int.add_mul,Int.mul_comm ((divR b m l * b + a) / m) m]
  omega

theorem div_whole {b m v:Nat} (hb:2 ≤ b) (hm:0 < m):(valW b (divQ b m (natW b v))).toNat=v / m ∧ divR b m (natW b v)=((v % m:Nat):Int):=by
 have h1:=divQ_val (b:=b) (m:=m) (natW b v)
 rw [valW_natW hb] at h1
 have h2:=divR_range (b:=b) hm (natW b v)
 have h3:=valW_nonneg (divQ_ok hm _ (natW_ok hb v))
 obtain ⟨q,hq⟩:∃ q:Nat,valW b (divQ b m (natW b v))=(q:Int):=⟨(valW b (divQ b m (natW b v))).toNat,by omega⟩
 obtain ⟨r,hr⟩:∃ r:Nat,divR b m (natW b v)=(r:Int):=⟨(divR b m (natW b v)).toNat,by omega⟩
 rw [hq,hr] at h1
 rw [hr] at h2
 rw [hq,hr,Int.toNat_natCast]
 have h4:q * m + r=v:=by exact_mod_cast h1
 have h5:r < m:=by omega
 have e1:v / m=q:=by
  rw [← h4,Nat.mul_comm q m,Nat.mul_add_div hm,Nat.div_eq_of_lt h5,Nat.add_zero]
 have e2:v % m=r:=by
  rw [← h4,Nat.mul_comm q m,Nat.mul_add_mod,Nat.mod_eq_of_lt h5]
 rw [e1,e2]
 exact ⟨rfl,rfl⟩

theorem wset_take {l:List Int} {i:Nat} {y:Int} (h:i < l.length):(l.set i y).take (i + 1)=l.take i ++ [y]:=by
 rw [wtake_succ (x:=y) (by rw [List.getElem?_set_self h]),List.take_set_of_le (Nat.le_refl i)]

end Go.Proofs.YtpgcbmbnognieaaGreat
