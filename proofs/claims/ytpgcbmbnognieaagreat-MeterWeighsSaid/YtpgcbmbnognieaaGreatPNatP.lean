/-
  Plainly: numbers as rows of words, the lowest first, to any base, without words 0 at the end.
-/
import Derived.Test.YtpgcbmbnognieaaGreatPOrderB
import Derived.BigRegion
namespace Go.Proofs.YtpgcbmbnognieaaGreat
set_option linter.unusedSimpArgs false
set_option linter.unusedVariables false
set_option maxHeartbeats 600000

def WordsOk (b:Nat) (ws:List Int):Prop:=∀ x ∈ ws,0 ≤ x ∧ x < b

def valW (b:Nat):List Int → Int
 | []=>0
 | x :: l=>x + b * valW b l

theorem valW_append (b:Nat) (a c:List Int):valW b (a ++ c)=valW b a + (b:Int) ^ a.length * valW b c:=by
 induction a with
 | nil=>simp [valW]
 | cons x l ih=>
  show x + b * valW b (l ++ c)=x + b * valW b l + (b:Int) ^ (l.length + 1) * valW b c
  rw [ih,Int.mul_add,Int.pow_succ,← Int.mul_assoc,Int.mul_comm ((b:Int) ^ l.length) b,Int.add_assoc]

theorem valW_zeros (b k:Nat):valW b (List.replicate k 0)=0:=by
 induction k with
 | zero=>rfl
 | succ k ih=>
  rw [List.replicate_succ]
  show (0:Int) + b * valW b (List.replicate k 0)=0
  rw [ih]
  simp

theorem valW_nonneg {b:Nat}:∀ {a:List Int},WordsOk b a → 0 ≤ valW b a:=by
 intro a
 induction a with
 | nil=>intro _;exact Int.le_refl _
 | cons x l ih=>
  intro h
  have h1:=ih (fun y hy=>h y (List.mem_cons_of_mem _ hy))
  have h2:=h x List.mem_cons_self
  show 0 ≤ x + b * valW b l
  have:=Int.mul_nonneg (show (0:Int) ≤ b by omega) h1
  omega

theorem valW_lt {b:Nat}:∀ {a:List Int},WordsOk b a → valW b a < (b:Int) ^ a.length:=by
 intro a
 induction a with
 | nil=>intro _;exact Int.zero_lt_one
 | cons x l ih=>
  intro h
  have h1:=ih (fun y hy=>h y (List.mem_cons_of_mem _ hy))
  have h2:=h x List.mem_cons_self
  show x + b * valW b l < (b:Int) ^ (l.length + 1)
  rw [Int.pow_succ,Int.mul_comm _ (b:Int)]
  have:=Int.mul_le_mul_of_nonneg_left (show valW b l + 1 ≤ (b:Int) ^ l.length from h1) (show (0:Int) ≤ b by omega)
  rw [Int.mul_add,Int.mul_one] at this
  omega

def natW (b:Nat) (v:Nat):List Int:=if h:v=0 ∨ b < 2 then [] else ((v % b:Nat):Int) :: natW b (v / b)
termination_by v
decreasing_by exact Nat.div_lt_self (by omega) (by omega)

theorem natW_zero (b:Nat):natW b 0=[]:=by rw [natW];simp

theorem natW_pos {b v:Nat} (h:v ≠ 0) (hb:2 ≤ b):natW b v=((v % b:Nat):Int) :: natW b (v / b):=by rw [natW,dif_neg (by omega)]

theorem valW_natW {b:Nat} (hb:2 ≤ b):∀ v:Nat,valW b (natW b v)=v:=by
 intro v
 induction v using Nat.strongRecOn with
 | _ v ih=>
  by_cases h:v=0
  ·rw [h,natW_zero];rfl
  ·rw [natW_pos h hb]
   show ((v % b:Nat):Int) + b * valW b (natW b (v / b))=v
   rw [ih _ (Nat.div_lt_self (by omega) (by omega))]
   have:=Nat.mod_add_div v b
   omega

theorem natW_ok {b:Nat} (hb:2 ≤ b):∀ v:Nat,WordsOk b (natW b v):=by
 intro v
 induction v using Nat.strongRecOn with
 | _ v ih=>
  by_cases h:v=0
  ·rw [h,natW_zero];intro x hx;cases hx
  ·rw [natW_pos h hb]
   intro x hx
   rcases List.mem_cons.1 hx with hx | hx
   ·have:=Nat.mod_lt v (show b > 0 by omega)
    omega
   ·exact ih _ (Nat.div_lt_self (by omega) (by omega)) x hx

def Trim (ws:List Int):Prop:=ws.getLast? ≠ some 0

theorem trim_nil:Trim []:=by intro h;cases h

theorem trim_tail {x:Int} {l:List Int} (h:Trim (x :: l)):Trim l:=by
 cases l with
 | nil=>exact trim_nil
 | cons y l=>intro e;exact h (by rw [List.getLast?_cons_cons];exact e)

theorem valW_pos {b:Nat} (hb:2 ≤ b) {ws:List Int} (ho:WordsOk b ws) (ht:Trim ws) (hn:ws ≠ []):0 < valW b ws:=by
 induction ws with
 | nil=>exact absurd rfl hn
 | cons x l ih=>
  show 0 < x + b * valW b l
  cases l with
  | nil=>
   have:=ho x List.mem_cons_self
   have hx:x ≠ 0:=fun e=>ht (by rw [e];rfl)
   show 0 < x + b * 0
   omega
  | cons y l=>
   have h1:=ih (fun z hz=>ho z (List.mem_cons_of_mem _ hz)) (trim_tail ht) (by simp)
   have h2:=ho x List.mem_cons_self
   have:=Int.mul_pos (show (0:Int) < b by omega) h1
   omega

theorem natW_valW {b:Nat} (hb:2 ≤ b):∀ {ws:List Int},WordsOk b ws → Trim ws → natW b (valW b ws).toNat=ws:=by
 intro ws
 induction ws with
 | nil=>intro _ _;exact natW_zero b
 | cons x l ih=>
  intro ho ht
  have hx:=ho x List.mem_cons_self
  have ho':WordsOk b l:=fun z hz=>ho z (List.mem_cons_of_mem _ hz)
  have hp:=valW_pos hb ho ht (by simp)
  have hl:=valW_nonneg ho'
  obtain ⟨n,hn⟩:∃ n:Nat,valW b l=(n:Int):=⟨(valW b l).toNat,by omega⟩
  obtain ⟨k,hk⟩:∃ k:Nat,x=(k:Int):=⟨x.toNat,by omega⟩
  have e0:(valW b (x :: l)).toNat=k + b * n:=by
   show (x + b * valW b l).toNat=_
   rw [hn,hk,← Int.natCast_mul,← Int.natCast_add,Int.toNat_natCast]
  have ih':=ih ho' (trim_tail ht)
  rw [hn,Int.toNat_natCast] at ih'
  rw [natW_pos (by omega) hb,e0,Nat.add_mul_mod_self_left,Nat.mod_eq_of_lt (by omega),Nat.add_mul_div_left _ _ (by omega),Nat.div_eq_of_lt (by omega),Nat.zero_add,ih',hk]

theorem natW_trim {b:Nat} (hb:2 ≤ b):∀ v:Nat,Trim (natW b v):=by
 intro v
 induction v using Nat.strongRecOn with
 | _ v ih=>
  by_cases h:v=0
  ·rw [h,natW_zero];exact trim_nil
  ·rw [natW_pos h hb]
   have h1:=ih _ (Nat.div_lt_self (show 0 < v by omega) (show 1 < b by omega))
   by_cases h2:v / b=0
   ·rw [h2,natW_zero]
    intro e
    have e2:((v % b:Nat):Int)=0:=by simpa using e
    have e3:=Nat.mod_add_div v b
    rw [h2,Nat.mul_zero] at e3
    omega
   ·rw [natW_pos h2 hb] at h1 ⊢
    intro e
    rw [List.getLast?_cons_cons] at e
    exact h1 e

theorem natW_len {b:Nat} (hb:2 ≤ b) {v k:Nat} (h:v < b ^ k):(natW b v).length ≤ k:=by
 induction k generalizing v with
 | zero=>
  have:v=0:=by simp at h;exact h
  rw [this,natW_zero]
  exact Nat.le_refl _
 | succ k ih=>
  by_cases h0:v=0
  ·rw [h0,natW_zero];exact Nat.zero_le _
  ·rw [natW_pos h0 hb]
   have:v / b < b ^ k:=by
    rw [Nat.div_lt_iff_lt_mul (by omega),← Nat.pow_succ]
    exact h
   have:=ih this
   simp only [List.length_cons]
   omega

theorem natW_lt {b:Nat} (hb:2 ≤ b) {v k:Nat} (h:(natW b v).length ≤ k):v < b ^ k:=by
 have:=valW_lt (natW_ok hb v)
 rw [valW_natW hb] at this
 have h2:v < b ^ (natW b v).length:=by
  have e:((b ^ (natW b v).length:Nat):Int)=(b:Int) ^ (natW b v).length:=Int.natCast_pow _ _
  omega
 exact Nat.lt_of_lt_of_le h2 (Nat.pow_le_pow_right (by omega) h)

theorem wtake_zero {b:Nat} {ws:List Int} {n:Nat} (h:∀ i x,n ≤ i → ws[i]?=some x → x=0):valW b (ws.take n)=valW b ws:=by
 have e:ws=ws.take n ++ List.replicate (ws.length - n) 0:=by
  conv=>lhs;rw [← List.take_append_drop n ws]
  congr 1
  refine List.eq_replicate_iff.2 ⟨List.length_drop,fun x hx=>?_⟩
  obtain ⟨i,hi⟩:=List.mem_iff_getElem?.1 hx
  rw [List.getElem?_drop] at hi
  exact h _ x (by omega) hi
 conv=>rhs;rw [e,valW_append,valW_zeros,Int.mul_zero,Int.add_zero]

theorem wtake_trim {b:Nat} (hb:2 ≤ b) {ws:List Int} {n:Nat} (ho:WordsOk b ws) (hn:n ≤ ws.length) (h:∀ i x,n ≤ i → ws[i]?=some x → x=0) (hl:n=0 ∨ ∃ x,ws[n - 1]?=some x ∧ x ≠ 0):ws.take n=natW b (valW b ws).toNat:=by
 rw [← wtake_zero h]
 refine (natW_valW hb (fun x hx=>ho x (List.mem_of_mem_take hx)) ?_).symm
 rcases hl with hl | ⟨x,hx,hne⟩
 ·rw [hl];exact trim_nil
 ·intro e
  rw [List.getLast?_eq_getElem?,List.length_take,Nat.min_eq_left hn,List.getElem?_take] at e
  split at e
  ·rw [hx] at e
   exact hne (Option.some.inj e)
  ·cases e

theorem wtake_succ {ws:List Int} {i:Nat} {x:Int} (h:ws[i]?=some x):ws.take (i + 1)=ws.take i ++ [x]:=by
 rw [List.take_add_one,h]
 rfl

theorem valW_succ (b:Nat) {ws:List Int} {i:Nat} {x:Int} (h:ws[i]?=some x):valW b (ws.take (i + 1))=valW b (ws.take i) + (b:Int) ^ i * x:=by
 have hi:i < ws.length:=(List.getElem?_eq_some_iff.1 h).1
 rw [wtake_succ h,valW_append,List.length_take,Nat.min_eq_left (by omega)]
 show _ + _ * (x + b * 0)=_
 rw [Int.mul_zero,Int.add_zero]

theorem valW_set (b:Nat) {ws:List Int} {i:Nat} {x y:Int} (h:ws[i]?=some x):valW b (ws.set i y)=valW b ws + (b:Int) ^ i * (y - x):=by
 induction ws generalizing i with
 | nil=>simp at h
 | cons z l ih=>
  cases i with
  | zero=>
   simp at h
   subst h
   show y + b * valW b l=z + b * valW b l + (b:Int) ^ 0 * (y - z)
   simp
   omega
  | succ i=>
   simp at h
   show z + b * valW b (l.set i y)=z + b * valW b l + (b:Int) ^ (i + 1) * (y - x)
   rw [ih h,Int.mul_add,Int.pow_succ,Int.mul_comm ((b:Int) ^ i) b,Int.mul_assoc,Int.add_assoc]

open Go.RowKit

theorem Keeps.frz {w w':World} (h:Keeps w w') {a:Addr} (hl:a.block < w.heap.size) (hc:w.frozen? a=false):w'.frozen? a=false:=(Below.frozen h hl).trans hc

theorem eql_same (x y:Edge) (h:x=y) (W:World):(binOp .eql 25 (.agg #[.int .u8 x.tag,.int .u32 x.to]) (.agg #[.int .u8 y.tag,.int .u32 y.to])).run Tryz.prog W=.ok (.bool true) W:=by rw [run_eql_edge];simp [h]

theorem eql_other (x y:Edge) (h:x ≠ y) (W:World):(binOp .eql 25 (.agg #[.int .u8 x.tag,.int .u32 x.to]) (.agg #[.int .u8 y.tag,.int .u32 y.to])).run Tryz.prog W=.ok (.bool false) W:=by rw [run_eql_edge];simp [h]

theorem OrdRep.cells {F:Nat → Prop} {w:World} {ob:Nat} {ps:List Int} (h:OrdRep F w ob ps):∃ va vc lg lc,w.cell? ⟨ob,0,none⟩=some (.slice va ps.length vc) ∧ w.cell? ⟨ob,1,none⟩=some (.slice (some ⟨lg,0,none⟩) ps.length lc) ∧ IntsAt w va ps:=by
 obtain ⟨⟨va,vc,lg,lc,qs,h1,h2,h3,h4,h5⟩,_⟩:=h
 refine ⟨va,vc,lg,lc,by rw [cell_of_row w ob 0 _ _ _ h1];rfl,by rw [cell_of_row w ob 1 _ _ _ h1];rfl,fun i x hx=>?_⟩
 obtain ⟨vg,q1,q2,_⟩:=h3 (fun e=>by rw [e] at hx;simp at hx)
 rw [q1]
 exact q2.ints i x hx

theorem OrdRep.le {F:Nat → Prop} {w:World} {ob:Nat} {ps:List Int} (h:OrdRep F w ob ps):ps.length ≤ 16:=(permB_iff.1 h.perm).1

theorem ordVars_calls {F:Nat → Prop} {w:World} {ob:Nat} {ps:List Int} (h:OrdRep F w ob ps) :
  Calls Tryz.prog 125 #[.pointer (some ⟨ob,0,none⟩)] w fun e w'=>e=.returned (.int .i64 (ps.length:Int)) ∧ w=w':=by
 obtain ⟨va,vc,lg,lc,c0,c1,_⟩:=h.cells
 have hle:=h.le
 obtain ⟨n,hn⟩:∃ n,n=ps.length:=⟨_,rfl⟩
 rw [← hn] at c0 c1 hle ⊢
 clear h c1 hn
 go_enter Tryz.func125,Tryz.ntmps125
 go_wp2
 go_ret
 exact ⟨rfl,rfl⟩

def numsI (n:Nat):List Int:=(List.range n).map (fun i:Nat=>(i:Int))

theorem numsI_len (n:Nat):(numsI n).length=n:=by unfold numsI;simp

theorem mem_numsI {n:Nat} {x:Int}:x ∈ numsI n ↔ 0 ≤ x ∧ x < (n:Int):=by
 unfold numsI
 rw [List.mem_map]
 constructor
 ·rintro ⟨a,ha,rfl⟩
  rw [List.mem_range] at ha
  omega
 ·intro h
  exact ⟨x.toNat,by rw [List.mem_range];omega,by omega⟩

theorem nodup_numsI (n:Nat):(numsI n).Nodup:=by
 unfold numsI
 exact List.Pairwise.map _ (fun a b (h:a ≠ b) e=>h (by omega)) List.nodup_range

theorem ints_calls (a b:Option Addr) (cap cap2:Nat) (ps qs:List Int) (w:World) (h1:IntsAt w a ps) (h2:IntsAt w b qs) (hl1:ps.length ≤ 1048576) (hl2:qs.length ≤ 1048576) :
  Calls Tryz.prog 26 #[.slice a ps.length cap,.slice b qs.length cap2] w fun e w'=>e=.returned (.bool (decide (ps=qs))) ∧ Keeps w w':=by
 by_cases hne:ps.length=qs.length
 ·obtain ⟨N,hN⟩:∃ N,N=ps.length:=⟨_,rfl⟩
  have hM:N=qs.length:=hN.trans hne
  rw [← hM,← hN]
  rw [← hN] at hl1
  have H1:=Lib.hid h1
  have H2:=Lib.hid h2
  have HN:=Lib.hid hN
  have HM:=Lib.hid hM
  clear h1 h2 hN hM hne hl2
  go_enter Tryz.func26,Tryz.ntmps26
  go_wp2
  go_loopg [5] N (fun gk s5 wr=>∃ d:Nat,s5=.int .i64 (d:Int) ∧ d + gk=N ∧ (∀ i,i < d → ps[i]?=qs[i]?) ∧ Keeps w wr)
  case atStart=>exact ⟨0,rfl,by omega,fun i hi=>by omega,by (exact kp)⟩
  case round=>
   obtain ⟨d,rfl,hd,hn,hk⟩:=hrel
   have HNN:=Lib.hid hn
   clear hn
   by_cases hlt:d < N
   ·obtain ⟨x,hx⟩:∃ b,ps[d]?=some b:=⟨_,List.getElem?_eq_getElem (by rw [← HN.out];exact hlt)⟩
    obtain ⟨y,hy⟩:∃ b,qs[d]?=some b:=⟨_,List.getElem?_eq_getElem (by rw [← HM.out];exact hlt)⟩
    obtain ⟨b1,o1,rfl,c0⟩:=H1.out d x hx
    obtain ⟨b2,o2,rfl,c1⟩:=H2.out d y hy
    replace c0:=hk.cell c0
    replace c1:=hk.cell c1
    have HX:=Lib.hid hx
    have HY:=Lib.hid hy
    have i0:(0:Int) ≤ (d:Int):=by omega
    have i1:(d:Int) < (N:Int):=by omega
    clear hx hy
    by_cases hab:x=y
    ·subst hab
     go_wp2_with fail
     go_quiet (fail)
     go_wp2
     go_roundg (gk - 1)
     case rel=>
      refine ⟨d + 1,by simp,by omega,fun i hi=>?_,by (exact kp)⟩
      by_cases e:i=d
      ·subst e;rw [HX.out,HY.out]
      ·exact HNN.out i (by omega)
     case measure=>omega
    ·have gab:(x != y)=true:=by simp [hab]
     have hf:Hid (¬ ps=qs):=Lib.hid (fun e=>by have:=HX.out;rw [e,HY.out] at this;exact hab (Option.some.inj this).symm)
     go_wp2_with fail
     go_quiet (fail)
     go_wp2
     go_ret
     exact ⟨by rw [decide_eq_false hf.out];rfl,by (exact kp)⟩
   ·have hg0:d=N:=by omega
    have hh:ps=qs:=by
     apply List.ext_getElem?
     intro i
     by_cases hi:i < d
     ·exact HNN.out i hi
     ·rw [List.getElem?_eq_none (by rw [← HN.out];omega),List.getElem?_eq_none (by rw [← HM.out];omega)]
    have HH:=Lib.hid hh
    clear hg0 hh
    go_wp2_with fail
    go_ret
    exact ⟨by rw [decide_eq_true HH.out];rfl,hk⟩
 ·have hf:decide (ps=qs)=false:=decide_eq_false (fun e=>hne (by rw [e]))
  obtain ⟨N,hN⟩:∃ N,N=ps.length:=⟨_,rfl⟩
  obtain ⟨K,hK⟩:∃ K,K=qs.length:=⟨_,rfl⟩
  rw [hf]
  rw [← hN,← hK] at hne ⊢
  have gne:((N:Int) != (K:Int))=true:=by simp;omega
  clear h1 h2 hl1 hl2 hN hK hf hne
  go_enter Tryz.func26,Tryz.ntmps26
  go_wp2
  go_ret
  exact ⟨rfl,by (exact kp)⟩

end Go.Proofs.YtpgcbmbnognieaaGreat
