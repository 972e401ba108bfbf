/-
  Rows of ints; bits of a mask of 64 bits.
-/
import Derived.Test.YtpgcbmbnognieaaGreatPRefA
import Derived.RegionTactic
namespace Go.Proofs.YtpgcbmbnognieaaGreat
set_option linter.unusedSimpArgs false
set_option linter.unusedVariables false
set_option maxHeartbeats 600000
open Go.RowKit

def IntsAt (w:World) (a:Option Addr) (ps:List Int):Prop:=∀ i x,ps[i]?=some x → ∃ b off,a=some ⟨b,off,none⟩ ∧ w.cell? ⟨b,off + i,none⟩=some (.int .i64 x)

theorem IntsAt.keeps {w w':World} {a:Option Addr} {ps:List Int} (h:IntsAt w a ps) (hk:Keeps w w'):IntsAt w' a ps:=fun i x hx=>by
 obtain ⟨b,off,ha,hc⟩:=h i x hx
 exact ⟨b,off,ha,hk.cell hc⟩

theorem wrap_nat64 (n:Nat) (h:n < 2 ^ 63):IntKind.i64.wrap (n:Int)=(n:Int):=by
 have e:(n:Int) % 2 ^ 64=n:=Int.emod_eq_of_lt (by omega) (by omega)
 simp only [IntKind.wrap,IntKind.bits,IntKind.signed,e]
 rw [if_neg]
 simp
 omega

theorem and_one_i64 (E:Int) (h0:0 ≤ E) (h1:E ≤ 9223372036854775807):bits BinOp.and IntKind.i64 E 1=E % 2:=by
 obtain ⟨a,rfl⟩:∃ a:Nat,E=(a:Int):=⟨E.toNat,by omega⟩
 have hx2:a &&& 1=a % 2:=Nat.and_one_is_mod a
 have h1:(BitVec.ofInt 64 (a:Int)).toNat=a:=by
  rw [BitVec.ofInt_natCast,BitVec.toNat_ofNat];exact Nat.mod_eq_of_lt (by omega)
 have h2:(BitVec.ofInt 64 ((1:Nat):Int)).toNat=1:=by
  rw [BitVec.ofInt_natCast,BitVec.toNat_ofNat]
 show IntKind.i64.wrap ((BitVec.ofInt 64 (a:Int) &&& BitVec.ofInt 64 ((1:Nat):Int)).toNat:Int)=_
 rw [BitVec.toNat_and,h1,h2,hx2,wrap_nat64 _ (by omega)]
 omega

theorem or_i64 (a b:Nat) (ha:a < 2 ^ 62) (hb:b < 2 ^ 62):bits BinOp.or IntKind.i64 (a:Int) (b:Int)=((a ||| b:Nat):Int):=by
 have h1:∀ c:Nat,c < 2 ^ 62 → (BitVec.ofInt 64 (c:Int)).toNat=c:=fun c hc=>by
  rw [BitVec.ofInt_natCast,BitVec.toNat_ofNat];exact Nat.mod_eq_of_lt (by omega)
 have hx:a ||| b < 2 ^ 62:=Nat.or_lt_two_pow ha hb
 show IntKind.i64.wrap ((BitVec.ofInt 64 (a:Int) ||| BitVec.ofInt 64 (b:Int)).toNat:Int)=_
 rw [BitVec.toNat_or,h1 a ha,h1 b hb,wrap_nat64 _ (by omega)]

def MaskOf (m:Nat) (l:List Int):Prop:=m < 65536 ∧ ∀ j:Nat,m.testBit j=true ↔ (j:Int) ∈ l

theorem MaskOf.nil:MaskOf 0 []:=⟨by decide,fun j=>by simp⟩

theorem MaskOf.add {m:Nat} {l:List Int} {x:Int} (h:MaskOf m l) (h0:0 ≤ x) (h1:x < 16):MaskOf (m ||| 2 ^ x.toNat) (l ++ [x]):=by
 have hp:2 ^ x.toNat < 2 ^ 16:=Nat.pow_lt_pow_right (by decide) (by omega)
 refine ⟨Nat.or_lt_two_pow (n:=16) h.1 hp,fun j=>?_⟩
 rw [Nat.testBit_or,Bool.or_eq_true,h.2 j,List.mem_append,List.mem_singleton,Nat.testBit_two_pow]
 simp only [decide_eq_true_eq]
 constructor
 ·rintro (a | a)
  ·exact .inl a
  ·exact .inr (by omega)
 ·rintro (a | a)
  ·exact .inl a
  ·exact .inr (by omega)

theorem MaskOf.bit {m:Nat} {l:List Int} {x:Int} (h:MaskOf m l) (h0:0 ≤ x):(bits BinOp.and IntKind.i64 ((m:Int) / 2 ^ x.toNat) 1 == 1)=decide (x ∈ l):=by
 have hm:=h.1
 have hp:(0:Int) < 2 ^ x.toNat:=Int.pow_pos (by decide)
 have a0:0 ≤ (m:Int) / 2 ^ x.toNat:=Int.ediv_nonneg (by omega) (by omega)
 have a1:(m:Int) / 2 ^ x.toNat ≤ m:=Int.ediv_le_self _ (by omega)
 rw [and_one_i64 _ a0 (by omega)]
 have hb:=h.2 x.toNat
 rw [show ((x.toNat:Nat):Int)=x by omega] at hb
 have e:(m:Int) / 2 ^ x.toNat=((m / 2 ^ x.toNat:Nat):Int):=by push_cast;rfl
 rw [e]
 have ht:m.testBit x.toNat=decide (m / 2 ^ x.toNat % 2=1):=Nat.testBit_eq_decide_div_mod_eq
 by_cases hin:x ∈ l
 ·have:=hb.2 hin
  rw [ht,decide_eq_true_eq] at this
  rw [decide_eq_true hin,beq_iff_eq]
  omega
 ·have:¬ m / 2 ^ x.toNat % 2=1:=fun hh=>hin (hb.1 (by rw [ht];exact decide_eq_true hh))
  rw [decide_eq_false hin,beq_eq_false_iff_ne]
  omega

theorem wrap_pow {x:Int} (h:x < 62):wrap64 (2 ^ x.toNat)=2 ^ x.toNat:=by
 have h2:2 ^ x.toNat ≤ 2 ^ 61:=Nat.pow_le_pow_right (by decide) (by omega)
 have h1:(2:Int) ^ x.toNat=((2 ^ x.toNat:Nat):Int):=by push_cast;rfl
 have h0:(0:Int) < 2 ^ x.toNat:=Int.pow_pos (by decide)
 unfold wrap64
 omega

def permB (ps:List Int):Bool:=decide (ps.length ≤ 16) && ps.all (fun x=>decide (0 ≤ x ∧ x < (ps.length:Int))) && decide ps.Nodup

theorem permB_iff {ps:List Int}:permB ps=true ↔ (ps.length ≤ 16 ∧ (∀ x ∈ ps,0 ≤ x ∧ x < (ps.length:Int)) ∧ ps.Nodup):=by
 unfold permB
 simp [List.all_eq_true,and_assoc]

theorem take_snoc {α:Type} {l:List α} {i:Nat} {x:α} (h:l[i]?=some x):l.take (i + 1)=l.take i ++ [x]:=by
 obtain ⟨hi,rfl⟩:=List.getElem?_eq_some_iff.1 h
 rw [List.take_succ_eq_append_getElem hi]

set_option maxRecDepth 100000 in
theorem permRight_calls (a:Option Addr) (cap:Nat) (ps:List Int) (w:World) (h:IntsAt w a ps) (hl:ps.length ≤ 1048576) :
  Calls Tryz.prog 176 #[.slice a ps.length cap] w fun e w'=>e=.returned (.bool (permB ps)) ∧ w=w':=by
 obtain ⟨N,hN⟩:∃ N,N=ps.length:=⟨_,rfl⟩
 rw [← hN] at hl ⊢
 have H:=Lib.hid h
 have HN:=Lib.hid hN
 clear h hN
 by_cases h16:16 < N
 ·have hf:permB ps=false:=by
   cases hb:permB ps with
   | false=>rfl
   | true=>have:=(permB_iff.1 hb).1;have:=HN.out;omega
  rw [hf]
  clear hf
  go_enter Tryz.func176,Tryz.ntmps176
  go_wp2
  go_ret
  exact ⟨rfl,rfl⟩
 ·go_enter Tryz.func176,Tryz.ntmps176
  go_wp2
  go_loopg [3,5,11] N (fun gk s3 s5 s11 wr=>∃ (m d:Nat),s3=.int .i64 (m:Int) ∧ s11=.int .i64 (d:Int) ∧ d + gk=N ∧ MaskOf m (ps.take d) ∧ (∀ x ∈ ps.take d,0 ≤ x ∧ x < (N:Int)) ∧ (ps.take d).Nodup ∧ w=wr)
  case atStart=>exact ⟨0,0,rfl,rfl,by omega,by simpa using MaskOf.nil,by simp,by simp,rfl⟩
  case round=>
   obtain ⟨m,d,rfl,rfl,hd,hm,hr,hnd,rfl⟩:=hrel
   by_cases hlt:d < N
   ·obtain ⟨x,hx⟩:∃ b,ps[d]?=some b:=⟨_,List.getElem?_eq_getElem (by rw [← HN.out];exact hlt)⟩
    obtain ⟨b,off,rfl,hc⟩:=H.out d x hx
    have hmem:x ∈ ps:=List.mem_of_getElem? hx
    have HX:=Lib.hid hx
    clear hx
    by_cases hx0:x < 0
    ·have hf:permB ps=false:=by
      cases hb:permB ps with
      | false=>rfl
      | true=>have:=((permB_iff.1 hb).2.1 x hmem).1;omega
     have HFF:=Lib.hid hf
     clear hf hmem hm hr hnd
     go_wp2_with fail
     go_ret
     exact ⟨by rw [HFF.out];rfl,rfl⟩
    ·by_cases hx1:(N:Int) ≤ x
     ·have hf:permB ps=false:=by
       cases hb:permB ps with
       | false=>rfl
       | true=>have:=((permB_iff.1 hb).2.1 x hmem).2;have:=HN.out;omega
      have HFF:=Lib.hid hf
      clear hf hmem hm hr hnd
      go_wp2_with fail
      go_ret
      exact ⟨by rw [HFF.out];rfl,rfl⟩
     ·have hbit:=hm.bit (x:=x) (by omega)
      by_cases hin:x ∈ ps.take d
      ·have hf:permB ps=false:=by
        cases hb:permB ps with
        | false=>rfl
        | true=>
         have:=(permB_iff.1 hb).2.2
         rw [← List.take_append_drop d ps,List.nodup_append] at this
         refine absurd rfl (this.2.2 x hin x ?_)
         rw [List.drop_eq_getElem_cons (by rw [← HN.out];exact hlt)]
         have:=HX.out
         rw [List.getElem?_eq_getElem (by rw [← HN.out];exact hlt)] at this
         rw [Option.some.inj this]
         simp
       have HFF:=Lib.hid hf
       rw [decide_eq_true hin] at hbit
       clear hf hmem hm hr hnd hin
       have hx2:x ≤ 63:=by omega
       go_wp2_with fail
       go_ret
       exact ⟨by rw [HFF.out];rfl,rfl⟩
      ·rw [decide_eq_false hin] at hbit
       have hm2:=hm.add (x:=x) (by omega) (by omega)
       have hor:=or_i64 m (2 ^ x.toNat) (by have:=hm.1;omega) (Nat.lt_of_lt_of_le (Nat.pow_lt_pow_right (n:=16) (by decide) (by omega)) (by decide))
       have htk:=take_snoc HX.out
       rw [← htk] at hm2
       have hr2:∀ y ∈ ps.take (d + 1),0 ≤ y ∧ y < (N:Int):=fun y hy=>by
        rw [htk] at hy
        rcases List.mem_append.1 hy with hy | hy
        ·exact hr y hy
        ·rw [List.mem_singleton] at hy;subst hy;omega
       have hnd2:(ps.take (d + 1)).Nodup:=by
        rw [htk,List.nodup_append]
        exact ⟨hnd,by simp,fun y hy z hz e=>by rw [List.mem_singleton] at hz;subst e;subst hz;exact hin hy⟩
       have HM2:=Lib.hid hm2
       have HR2:=Lib.hid hr2
       have HND2:=Lib.hid hnd2
       push_cast at hor
       have hwp:=wrap_pow (x:=x) (by omega)
       clear hm hr hnd hm2 hr2 hnd2 hmem hin htk
       have hx2:x ≤ 63:=by omega
       go_wp2_with fail
       go_roundg (gk - 1)
       case rel=>exact ⟨m ||| 2 ^ x.toNat,d + 1,rfl,by simp,by omega,HM2.out,HR2.out,HND2.out,rfl⟩
       case measure=>omega
   ·have hd2:d=N:=by omega
    have ht:permB ps=true:=by
     have e1:ps.take d=ps:=List.take_of_length_le (by rw [← HN.out];omega)
     rw [e1] at hr hnd
     exact permB_iff.2 ⟨by have:=HN.out;omega,fun x hx=>by have:=hr x hx;have:=HN.out;omega,hnd⟩
    have HFF:=Lib.hid ht
    clear hm hr hnd ht
    go_wp2_with fail
    go_ret
    exact ⟨by rw [HFF.out];rfl,rfl⟩

def WordsAt (w:World) (a:Option Addr) (ws:List Int):Prop:=∀ i x,ws[i]?=some x → (0 ≤ x ∧ x < 2 ^ 64) ∧ ∃ b off,a=some ⟨b,off,none⟩ ∧ w.cell? ⟨b,off + i,none⟩=some (.int .u64 x)

theorem WordsAt.keeps {w w':World} {a:Option Addr} {ws:List Int} (h:WordsAt w a ws) (hk:Keeps w w'):WordsAt w' a ws:=fun i x hx=>by
 obtain ⟨h1,b,off,ha,hc⟩:=h i x hx
 exact ⟨h1,b,off,ha,hk.cell hc⟩

def RowU (w:World) (g:Nat) (ps:List Int):Prop:=∃ cur:Array Value,w.heap[g]?=some (.cells cur 50 (0,0)) ∧ ∀ (i:Nat) (x:Int),ps[i]?=some x → cur[i]?=some (Value.int .u64 x)

theorem RowU.cell {w:World} {g:Nat} {ps:List Int} (h:RowU w g ps) {i:Nat} {x:Int} (hx:ps[i]?=some x):w.cell? ⟨g,i,none⟩=some (.int .u64 x):=by
 obtain ⟨cur,h1,h2⟩:=h
 rw [cell_of_row w g i _ _ _ h1]
 simp only [h2 i x hx]

theorem RowU.frozen {w:World} {g:Nat} {ps:List Int} (h:RowU w g ps) (i:Nat):w.frozen? ⟨g,i,none⟩=false:=by
 obtain ⟨cur,h1,h2⟩:=h
 exact frozen_of_row w g i _ _ h1

theorem RowU.lt {w:World} {g:Nat} {ps:List Int} (h:RowU w g ps):g < w.heap.size:=by
 obtain ⟨cur,h1,h2⟩:=h
 exact lt_of_heap h1

theorem RowU.keep {G:Nat → Prop} {w w':World} {g:Nat} {ps:List Int} (h:RowU w g ps) (hu:Upd G w w') (hg:¬ G g):RowU w' g ps:=by
 have hl:=h.lt
 obtain ⟨cur,h1,h2⟩:=h
 exact ⟨cur,(hu.block g hl hg).trans h1,h2⟩

theorem RowU.keeps {w w':World} {g:Nat} {ps:List Int} (h:RowU w g ps) (hk:Keeps w w'):RowU w' g ps:=h.keep (hk.upd (fun _=>False)) (fun h=>h)

theorem RowU.words {w:World} {g:Nat} {ps:List Int} (h:RowU w g ps) (hr:∀ x ∈ ps,0 ≤ x ∧ x < 2 ^ 64):WordsAt w (some ⟨g,0,none⟩) ps:=fun i x hx=>⟨hr x (List.mem_of_getElem? hx),g,0,rfl,by rw [Nat.zero_add];exact h.cell hx⟩

theorem RowU.set {w:World} {g:Nat} {ps:List Int} (h:RowU w g ps) (i:Nat) (y:Int) (hi:i < ps.length):RowU (w.setCell ⟨g,i,none⟩ (.int .u64 y)) g (ps.set i y):=by
 obtain ⟨cur,h1,h2⟩:=h
 refine ⟨_,Go.heap_setCell_same w g i _ _ (.int .u64 y) h1,fun j x hx=>?_⟩
 rw [Array.getElem?_setIfInBounds]
 by_cases hj:i=j
 ·subst hj
  have hc:=h2 i ps[i] (by simp [hi])
  have hs:i < cur.size:=(Array.getElem?_eq_some_iff.1 hc).1
  rw [if_pos rfl,if_pos hs]
  simp [hi] at hx
  rw [hx]
 ·rw [if_neg hj]
  rw [List.getElem?_set_ne hj] at hx
  exact h2 j x hx

theorem rowU_made {w:World} {blk n:Nat} (h:w.ownsRow blk 50 1 (.slice (some ⟨blk,0,none⟩) n n) n (madeCells (Value.int .u64 0).cells (n * 1)).toList):RowU w blk (List.replicate n 0):=by
 have e:(madeCells (Value.int .u64 0).cells (n * 1)).toList=(List.replicate n (0:Int)).map (Value.int .u64):=by
  rw [List.map_replicate,Nat.mul_one]
  simp [madeCells,Value.cells,Nat.mod_one]
  rw [List.map_const',List.length_range]
 rw [e] at h
 rcases h.2 with ⟨h0,_⟩ | ⟨g',cap',cur,hv,hb,hg,_,_,hs,ht⟩
 ·cases h0
 ·cases hv
  obtain ⟨cur0,hcur0⟩:=owns_type h (k:=blk) rfl
  refine ⟨cur,hg,fun i x hx=>?_⟩
  have h1:((List.replicate n (0:Int)).map (Value.int .u64))[i]?=some (.int .u64 x):=by rw [List.getElem?_map,hx];rfl
  rw [← ht,List.getElem?_take] at h1
  split at h1
  ·rw [Array.getElem?_toList] at h1
   exact h1
  ·cases h1

theorem info_u64:(Tryz.prog.info? 50).map (fun i=>(i.zero,i.size,i.bytes))=some (some (.int .u64 0),1,8):=by kernel_rfl

open Go

def lateB (ops:Array Oper) (n:Nat):Bool:=
 (List.range ops.size).all fun t=>decide (t ≤ n) || (List.range t).any fun j=>decide (n ≤ j) && Region.waitsFor .any ops t j

section
variable {P:Program} {ops:Array Oper} {w:World}

theorem none_late {n:Nat} {listed:Array Bool} (hs:Region.sinkB .any ops n=true) (hc:lateB ops n=true) (inv:HeadInv .any ops n listed) :
  ∀ (d i:Nat),n - i=d → i < n → listed.getD i true=false → ∀ t ∈ Region.ready .any ops listed,t < n:=by
 intro d
 induction d using Nat.strongRecOn with
 | _ d ih=>
  intro i hd hi hun t hr
  refine Classical.byContradiction fun hlt=>?_
  obtain ⟨_,o,ho,hall⟩:=mem_ready.1 hr
  have hts:t < ops.size:=(Array.getElem?_eq_some_iff.1 ho).1
  rcases Nat.lt_or_ge n t with hnt | hnt
  ·have h1:=List.all_eq_true.1 hc t (List.mem_range.2 hts)
   rw [Bool.or_eq_true] at h1
   rcases h1 with h1 | h1
   ·have:=of_decide_eq_true h1
    omega
   ·obtain ⟨j,hj,h2⟩:=List.any_eq_true.1 h1
    rw [Bool.and_eq_true] at h2
    obtain ⟨o',ho',e,he,hb,hon⟩:=Region.waitsFor_spec h2.2
    obtain rfl:o'=o:=Option.some.inj (ho'.symm.trans ho)
    have h3:=hall e he hb
    rw [hon,getD_both (inv.tail j (of_decide_eq_true h2.1) (by have:=List.mem_range.1 hj;omega))] at h3
    cases h3
  ·obtain rfl:t=n:=by omega
   obtain ⟨j,hj,h2⟩:=List.any_eq_true.1 (List.all_eq_true.1 hs i (List.mem_range.2 hi))
   rw [Bool.and_eq_true] at h2
   have hij:=of_decide_eq_true h2.1
   obtain ⟨o',ho',e,he,hb,hon⟩:=Region.waitsFor_spec h2.2
   have hjr:=List.mem_range.1 hj
   by_cases hjt:j=t
   ·subst hjt
    obtain rfl:o'=o:=Option.some.inj (ho'.symm.trans ho)
    have h3:=hall e he hb
    rw [hon,getD_both hun] at h3
    cases h3
   ·rcases hl:listed.getD j false with _ | _
    ·exact hlt (ih (t - j) (by omega) j rfl (by omega) (getD_in (by rw [inv.size];omega) hl) t hr)
    ·have h3:=inv.closed j o' ho' hl e he hb
     rw [hon,getD_both hun] at h3
     cases h3

theorem head_first {n i:Nat} {oi:Oper} {v:Value} {L:Array Bool → Act → Prop} (hi:ops[i]?=some oi) (hsel:Region.noSelect ops=true) (hs:Region.sinkB .any ops n=true) (hc:lateB ops n=true) (hin:i < n)
  (hend:∀ listed a,L listed a → ∀ j ∈ Region.ready .any ops listed,n ≤ j) :
  ∀ (f:Nat) (listed:Array Bool) (a:Act),HeadInv .any ops n listed →
   (∀ j oj,ops[j]?=some oj → j ≠ i → listed.getD j true=false → (∀ e ∈ oj.after,Region.binds .any e=true → e.on ≠ i) → oi.apart ops oj=true) →
   i ∈ Region.ready .any ops listed → YieldsAt P ops w oi v a →
   wpAnyL P .any ops w n L f (listed.setIfInBounds i true) (a.put oi.dst v) → wpAnyL P .any ops w n L (f + 1) listed a
 | f,listed,a,inv,hfree,hr,hy,H=>by
  have hun:=(mem_ready.1 hr).1
  refine ⟨fun h=>(by rw [h] at hr;cases hr),fun j hj=>?_⟩
  have hjn:=none_late hs hc inv _ i rfl hin hun j hj
  refine ⟨hjn,?_⟩
  by_cases hji:j=i
  ·subst hji
   exact hy.stOp hi H
  ·cases f with
   | zero=>
    have:=hend _ _ H j (ready_mono hj hji)
    omega
   | succ f=>
    obtain ⟨hjun,oj,hoj,hall⟩:=mem_ready.1 hj
    have hno:∀ e ∈ oj.after,Region.binds .any e=true → e.on ≠ i:=fun e he hb heq=>by
     have h1:=hall e he hb
     rw [heq,getD_both hun] at h1
     cases h1
    have h2:=stOp_put hoj (hfree j oj hoj hji hjun hno) (fun cs b=>Region.noSelect_spec hsel i oi cs b hi) (fun cs b=>Region.noSelect_spec hsel j oj cs b hoj) hy (H.2 j (ready_mono hj hji)).2
    refine stOp_mono (fun a' h3=>head_first hi hsel hs hc hin hend f (listed.setIfInBounds j true) a' (inv.set hj hjn) ?_ (ready_mono hr (Ne.symm hji)) h3.1 ?_) h2
    ·intro k ok hk hki hu hn'
     refine hfree k ok hk hki ?_ hn'
     by_cases hjk:j=k
     ·subst hjk
      exact hjun
     ·rwa [getD_set_ne true hjk] at hu
    ·rw [Array.setIfInBounds_comm _ _ hji]
     exact h3.2

def lexTo (ops:Array Oper) (n:Nat) (T:Array Bool):Nat → Nat → Array Bool → Bool
 | 0,_,listed=>decide (listed=T) && (Region.ready .any ops T).all (fun j=>decide (n ≤ j))
 | f + 1,k,listed=>(Region.ready .any ops listed).contains k && Region.free .any ops listed k && lexTo ops n T f (k + 1) (listed.setIfInBounds k true)

theorem head_lex {n:Nat} {T:Array Bool} {G:Act → Prop} (hsel:Region.noSelect ops=true) (hs:Region.sinkB .any ops n=true) (hc:lateB ops n=true) :
  ∀ (l:List Oper) (k:Nat) (listed:Array Bool) (a:Act),(∀ j,j < l.length → l[j]?=ops[k + j]?) → k + l.length=n → HeadInv .any ops n listed → lexTo ops n T l.length k listed=true →
   wpStill P ops w G l a → wpAnyL P .any ops w n (fun listed' a'=>(listed'=T ∧ ∀ j ∈ Region.ready .any ops T,n ≤ j) ∧ G a') l.length listed a
 | [],k,listed,a,_,_,_,hB,h=>by
  simp only [List.length_nil,lexTo,Bool.and_eq_true,decide_eq_true_eq] at hB
  exact ⟨⟨hB.1,fun j hj=>of_decide_eq_true (List.all_eq_true.1 hB.2 j hj)⟩,h⟩
 | o :: l,k,listed,a,hl,hk,inv,hB,h=>by
  have h0:ops[k]?=some o:=by simpa using (hl 0 (by simp)).symm
  simp only [List.length_cons,lexTo,Bool.and_eq_true] at hB
  have hkn:k < n:=by simp only [List.length_cons] at hk;omega
  have hr:k ∈ Region.ready .any ops listed:=by simpa using hB.1.1
  have hst:stOp P ops w k (wpStill P ops w G l) a:=by
   unfold stOp
   simp only [h0]
   exact h
  obtain ⟨v,hy,hK⟩:=yieldsAt_of_stOp h0 hst
  refine head_first h0 hsel hs hc hkn (fun listed' a' hL j hj=>?_) l.length listed a inv (Region.free_spec h0 hB.1.2) hr hy ?_
  ·rw [hL.1.1] at hj
   exact hL.1.2 j hj
  ·exact head_lex hsel hs hc l (k + 1) _ _ (fun j hj=>by have:=hl (j + 1) (by simp;omega);simpa [Nat.add_assoc,Nat.add_comm 1 j] using this) (by simp only [List.length_cons] at hk;omega) (inv.set hr hkn) hB.2 hK

def headB (ops:Array Oper) (n:Nat) (T:Array Bool):Bool:=
 Region.noSelect ops && decide (n < ops.size) && Region.sinkB .any ops n && lateB ops n && lexTo ops n T n 0 (Array.replicate ops.size false)

theorem wp_region_head {id:Nat} {Q:Exit → Act → World → Prop} {a:Act} {l:List Oper} (n:Nat) (T:Array Bool) (hm:P.follows .mixedOrders=true) (hB:headB l.toArray n T=true)
  (h:wpStill P l.toArray w.drew (fun a'=>wpAny P .any l.toArray Q (l.length - n) T a' w.drew) (l.take n) a):(Code.region id l.toArray true).wp P Q a w:=by
 simp only [headB,Bool.and_eq_true,decide_eq_true_eq] at hB
 obtain ⟨⟨⟨⟨hsel,hn⟩,hs⟩,hc⟩,hlex⟩:=hB
 have hn':n < l.length:=by simpa using hn
 have htl:(l.take n).length=n:=by simp;omega
 have inv0:HeadInv .any l.toArray n (Array.replicate l.toArray.size false):=
  ⟨by simp,fun j oj _ hl=>(by rw [getD_replicate_false] at hl;cases hl),fun t _ ht=>getD_in (by simpa using ht) (getD_replicate_false _ _)⟩
 have H:=head_lex hsel hs hc (l.take n) 0 (Array.replicate l.toArray.size false) a (fun j hj=>by
  have hj':j < n:=by rw [htl] at hj;exact hj
  simp [hj']) (by simpa using htl) inv0 (by rw [htl];exact hlex) h
 refine wp_region_any hm ?_
 have:=wpAny_of_head (Q':=Q) (g:=l.length - n) (fun listed a' hL=>by rw [hL.1.1];exact hL.2) _ _ _ H
 rw [htl,show n + (l.length - n)=l.toArray.size by simp;omega] at this
 exact this

end

end Go.Proofs.YtpgcbmbnognieaaGreat
