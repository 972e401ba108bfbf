/-
  Rows of bytes of one's own, appended to; ramageref04.Bytes, ramageref04.Same.
-/
import Derived.Test.YtfpjogpjocedaaaGreatPWireW
import Derived.Laws.AppendOwnNone
import Derived.Laws.Bits64b
import Derived.Laws.BytesArg
import Derived.Laws.Strings
namespace Go.Proofs.YtfpjogpjocedaaaGreat
set_option linter.unusedSimpArgs false
set_option linter.unusedVariables false
set_option maxHeartbeats 600000
open Go.RowKit

def BsRow (base:Nat) (w:World) (v:Value) (bs:List Int):Prop:=w.ownsRow base 5 1 v bs.length (byteVs bs)

def BsAt (w:World) (a:Option Addr) (bs:List Int):Prop:=∀ i x,bs[i]?=some x → ∃ b off,a=some ⟨b,off,none⟩ ∧ w.cell? ⟨b,off + i,none⟩=some (.int .u8 x)

theorem BsAt.keeps {w w':World} {a:Option Addr} {bs:List Int} (h:BsAt w a bs) (hk:Keeps w w'):BsAt w' a bs:=fun i x hx=>by
 obtain ⟨b,off,ha,hc⟩:=h i x hx
 exact ⟨b,off,ha,hk.cell hc⟩

theorem BsRow.keeps {base:Nat} {w w':World} {v:Value} {bs:List Int} (h:BsRow base w v bs) (hk:Keeps w w'):BsRow base w' v bs:=hk.owns h

theorem BsRow.slice {base:Nat} {w:World} {v:Value} {bs:List Int} (h:BsRow base w v bs):∃ a cap,v=.slice a bs.length cap ∧ BsAt w a bs:=by
 rcases h.2 with ⟨h0,hn⟩ | ⟨g,cap,cur,h0,hb,hg,hnc,hcm,hcs,htake⟩
 ·refine ⟨none,0,by rw [h0,hn],fun i x hx=>?_⟩
  have:=(List.getElem?_eq_some_iff.1 hx).1
  omega
 ·refine ⟨some ⟨g,0,none⟩,cap,h0,fun i x hx=>⟨g,0,rfl,?_⟩⟩
  have hi:=(List.getElem?_eq_some_iff.1 hx).1
  rw [h0] at h
  have h2:=World.ownsRow.cellAt h (j:=i) (by omega)
  rw [Nat.zero_add,h2]
  unfold byteVs
  rw [List.getElem?_map,hx]
  rfl

def IsBlk (w:World) (t:TypeId) (k:Nat):Prop:=∃ cs,w.heap[k]?=some (.cells cs t (0,0))

theorem BsRow.blk {base:Nat} {w:World} {v:Value} {bs:List Int} (h:BsRow base w v bs) {k:Nat} (hk:v.ownBlock=some k):IsBlk w 5 k ∧ base ≤ k:=by
 obtain ⟨cs,hc⟩:=owns_type h hk
 exact ⟨⟨cs,hc⟩,row_from h hk⟩

theorem BsRow.nil (base:Nat) (w:World):BsRow base w (.slice none 0 0) []:=World.ownsRow_nil _ _ _ _

theorem wpB_row {P:Program} {w:World} {ops:Array Oper} {rest:List Oper} {o:Oper} {a:Act} {Q:Exit → Act → World → Prop} (hgd:o.guard=none) (s x:Operand) (t:TypeId)
  (ho:o.op=.call { callee:=.builtin .append,args:=#[s,x],argTypes:=#[t,t] })
  (base b2:Nat) (e:TypeId) (i:TypeInfo) (z:Value) (bytes:Nat) (ht:P.underlying t=some (.slice e)) (hi:P.info? e=some i) (hz:i.zero=some z)
  (hsize:i.size=1) (hby:i.bytes=bytes) (hzs:z.cells.size=1)
  (v:Value) (n:Nat) (xs:List Value) (hs:a.eval s=v) (hown:w.ownsRow base e 1 v n xs)
  (xv:Value) (m:Nat) (news:List Value) (hx:a.eval x=xv) (hrow:w.ownsRow b2 e 1 xv m news) (h1:∀ u ∈ news,u.oneCell'=true)
  (h63:n + m ≤ maxLen) (hbytes:(n + m) * bytes ≤ 140737488355328) (hbase:base ≤ w.heap.size)
  (h:∀ v' w',w'.ownsRow base e 1 v' (n + m) (xs ++ news) → w.grownBy w' v.ownBlock → wpList P ops Q rest (a.put o.dst v') w'):wpList P ops Q (o :: rest) a w:=by
 rcases hrow.2 with ⟨rfl,rfl⟩ | ⟨g,cap,cur,rfl,_⟩
 ·have hnil:news=[]:=by simpa using hrow.1
  subst hnil
  refine wpList_append_own_none hgd s x t ho base e i 1 ht hi v n xs hs hown hx (h v w (by simpa using hown) ?_)
  exact ⟨rfl,rfl,rfl,Nat.le_refl _,fun _ _ _=>rfl⟩
 ·refine wpList_append_own _ hgd s x t ho base e i z 1 bytes ht hi hz hsize hby hzs (by omega) v n xs hs hown ⟨g,0,none⟩ m cap news hx hrow.1 (fun j u hj=>?_) h1 h63 hbytes hbase (fun v' w' h2 h3 _=>h v' w' h2 h3)
  have hj':=(List.getElem?_eq_some_iff.1 hj).1
  have hl:=hrow.1
  have hadd:(⟨g,0,none⟩:Addr).add j=⟨g,j,none⟩:=by unfold Addr.add;split <;> simp_all
  rw [hadd,hrow.cellAt j (by omega),hj]

theorem wpB_append {w:World} {ops:Array Oper} {rest:List Oper} {o:Oper} {a:Act} {Q:Exit → Act → World → Prop} (hgd:o.guard=none) (s x:Operand)
  (ho:o.op=.call { callee:=.builtin .append,args:=#[s,x],argTypes:=#[24,24] })
  (base b2:Nat) (v xv:Value) (bs cs:List Int) (hs:a.eval s=v) (hx:a.eval x=xv) (hown:BsRow base w v bs) (hrow:BsRow b2 w xv cs) (hl:bs.length + cs.length ≤ 140737488355328) (hbase:base ≤ w.heap.size)
  (h:∀ v' w',BsRow base w' v' (bs ++ cs) → w.grownBy w' v.ownBlock → wpList Tryz.prog ops Q rest (a.put o.dst v') w'):wpList Tryz.prog ops Q (o :: rest) a w:=by
 obtain ⟨i,hi,hz0,hz1,hz2⟩:=info_parts info_byte
 refine wpB_row hgd s x 24 ho base b2 5 i (.int .u8 0) 1 Tryz.underlying24 hi hz0 hz1 hz2 rfl v bs.length (byteVs bs) hs hown xv cs.length (byteVs cs) hx hrow (byteVs_one cs) (by unfold maxLen;omega) (by omega) hbase (fun v' w' h2 h3=>h v' w' ?_ h3)
 unfold BsRow
 rw [byteVs_append,List.length_append]
 exact h2

theorem wpB_append_op {o:Oper} {a:Act} {w:World} {K:Act → World → Prop} {Q:Exit → Act → World → Prop} (s x:Operand)
  (ho:o.op=.call { callee:=.builtin .append,args:=#[s,x],argTypes:=#[24,24] })
  (base b2:Nat) (v xv:Value) (bs cs:List Int) (hs:a.eval s=v) (hx:a.eval x=xv) (hown:BsRow base w v bs) (hrow:BsRow b2 w xv cs) (hpos:0 < cs.length) (hl:bs.length + cs.length ≤ 140737488355328) (hbase:base ≤ w.heap.size)
  (h:∀ v' w',BsRow base w' v' (bs ++ cs) → w.grownBy w' v.ownBlock → K (a.put o.dst v') w'):o.wp Tryz.prog a w K Q:=by
 obtain ⟨i,hi,hz0,hz1,hz2⟩:=info_parts info_byte
 obtain ⟨g,cap,rfl⟩:=owns_shape hrow hpos
 refine wp_append_fresh s x 24 ho base 5 i (.int .u8 0) 1 1 Tryz.underlying24 hi hz0 hz1 hz2 rfl (by decide) v bs.length (byteVs bs) hs hown ⟨g,0,none⟩ cs.length cap (byteVs cs) hx (by rw [byteVs_len,Nat.mul_one]) (World.ownsRow.cells hrow (g:=g) rfl) (byteVs_one cs) (by unfold maxLen;omega) (by omega) hbase (fun v' w' h2 h3 _=>h v' w' ?_ h3)
 unfold BsRow
 rw [byteVs_append,List.length_append]
 exact h2

theorem BsRow.other {base:Nat} {w:World} {v:Value} {bs:List Int} (h:BsRow base w v bs) {k:Nat} {cs:Array Value} {t:TypeId} {q:Nat × Nat} (hk:w.heap[k]?=some (.cells cs t q)) (ht:t ≠ 5):v.ownBlock ≠ some k:=fun e=>by
 obtain ⟨⟨cs',hc⟩,_⟩:=h.blk e
 rw [hk] at hc
 cases hc
 exact ht rfl

def getG:Nat → List Int → Option (Nat × List Int)
 | 0,_=>none
 | _ + 1,[]=>none
 | k + 1,c :: cs=>if c < 128 then some (c.toNat,cs) else match getG k cs with
  | none=>none
  | some (m,r)=>if m=0 then none else some (c.toNat % 128 + 128 * m,r)

theorem getG_low {k:Nat} {c:Int} (h:c < 128) (cs:List Int):getG (k + 1) (c :: cs)=some (c.toNat,cs):=by
 rw [getG,if_pos h]

theorem getG_more {k:Nat} {c:Int} (h:¬ c < 128) (cs:List Int):getG (k + 1) (c :: cs)=match getG k cs with
  | none=>none
  | some (m,r)=>if m=0 then none else some (c.toNat % 128 + 128 * m,r):=by
 rw [getG,if_neg h]

def getB (most:Nat) (bs:List Int):Option (Nat × List Int):=match getG 10 bs with
 | none=>none
 | some (n,r)=>if n ≤ most then some (n,r) else none

def IsBs (bs:List Int):Prop:=∀ x ∈ bs,0 ≤ x ∧ x ≤ 255

theorem getG_put:∀ (k n:Nat) (r:List Int),n < 128 ^ (k + 1) → getG (k + 1) (putB n ++ r)=some (n,r):=by
 intro k
 induction k with
 | zero=>
  intro n r h
  rw [putB_low (by omega)]
  exact getG_low (by omega) r
 | succ k ih=>
  intro n r h
  by_cases hn:n < 128
  ·rw [putB_low hn]
   exact getG_low (by omega) r
  ·rw [putB_more hn]
   have h2:=ih (n / 128) r (by rw [Nat.pow_succ] at h;exact Nat.div_lt_of_lt_mul (by rw [Nat.mul_comm];exact h))
   rw [List.cons_append,getG_more (by omega),h2]
   simp only []
   rw [if_neg (by omega)]
   have e:((n % 128 + 128:Nat):Int).toNat % 128 + 128 * (n / 128)=n:=by omega
   rw [e]

theorem getB_put {n most:Nat} (h:n ≤ most) (hn:n < 2 ^ 64) (r:List Int):getB most (putB n ++ r)=some (n,r):=by
 unfold getB
 rw [getG_put 9 n r (Nat.lt_of_lt_of_le hn (by decide))]
 simp only []
 rw [if_pos h]

structure PartG (bs:List Int) (i acc:Nat) (rest:List Int):Prop where
 all:∀ k r,getG (10 - i) rest=some (k,r) → ¬ (i ≠ 0 ∧ k=0) → getG 10 bs=some (acc + 128 ^ i * k,r)
 no:(getG (10 - i) rest=none ∨ ∃ r,i ≠ 0 ∧ getG (10 - i) rest=some (0,r)) → getG 10 bs=none
 low:acc < 128 ^ i

theorem PartG.start (bs:List Int):PartG bs 0 0 bs:=by
 refine ⟨fun k r h _=>?_,fun h=>?_,by decide⟩
 ·rw [Nat.pow_zero,Nat.one_mul,Nat.zero_add]
  exact h
 ·rcases h with h | ⟨r,h,_⟩
  ·exact h
  ·exact absurd rfl h

theorem PartG.next {bs cs:List Int} {i acc:Nat} {c:Int} (h:PartG bs i acc (c :: cs)) (hi:i < 9) (hc:128 ≤ c ∧ c ≤ 255):PartG bs (i + 1) (acc + 128 ^ i * (c.toNat % 128)) cs:=by
 have e:10 - i=(10 - (i + 1)) + 1:=by omega
 have hg:getG (10 - i) (c :: cs)=match getG (10 - (i + 1)) cs with | none=>none | some (m,r)=>if m=0 then none else some (c.toNat % 128 + 128 * m,r):=by
  rw [e]
  exact getG_more (by omega) cs
 refine ⟨fun k r hk h0=>?_,fun hn=>?_,?_⟩
 ·rw [hk] at hg
  simp only [] at hg
  have hk0:k ≠ 0:=fun hh=>h0 ⟨by omega,hh⟩
  rw [if_neg hk0] at hg
  have:=h.all _ r hg (fun hh=>by omega)
  rw [this]
  congr 2
  rw [Nat.pow_succ,Nat.mul_add,Nat.mul_assoc,Nat.add_assoc]
 ·apply h.no
  left
  rcases hn with hn | ⟨r,_,hn⟩
  ·rw [hn] at hg;exact hg
  ·rw [hn] at hg
   simpa using hg
 ·have hl:=h.low
  have h2:c.toNat % 128 ≤ 127:=by omega
  have h3:128 ^ i * (c.toNat % 128) ≤ 128 ^ i * 127:=Nat.mul_le_mul_left _ h2
  rw [Nat.pow_succ]
  omega

theorem PartG.last {bs cs:List Int} {i acc:Nat} {c:Int} (h:PartG bs i acc (c :: cs)) (hi:i ≤ 9) (hc:0 ≤ c ∧ c < 128) (h0:¬ (i ≠ 0 ∧ c=0)):getG 10 bs=some (acc + 128 ^ i * c.toNat,cs):=by
 have e:10 - i=(9 - i) + 1:=by omega
 refine h.all c.toNat cs ?_ (fun hh=>h0 ⟨hh.1,by omega⟩)
 rw [e]
 exact getG_low hc.2 cs

theorem PartG.zero {bs cs:List Int} {i acc:Nat} (h:PartG bs i acc (0 :: cs)) (hi:i ≤ 9) (h0:i ≠ 0):getG 10 bs=none:=by
 have e:10 - i=(9 - i) + 1:=by omega
 refine h.no (.inr ⟨cs,h0,?_⟩)
 rw [e]
 rfl

theorem PartG.end {bs:List Int} {i acc:Nat} (h:PartG bs i acc []) (hi:i ≤ 9):getG 10 bs=none:=by
 have e:10 - i=(9 - i) + 1:=by omega
 refine h.no (.inl ?_)
 rw [e]
 rfl

theorem PartG.great {bs cs:List Int} {acc:Nat} {c:Int} (h:PartG bs 9 acc (c :: cs)) (hc:1 < c ∧ c ≤ 255):getG 10 bs=none ∨ ∃ n r,getG 10 bs=some (n,r) ∧ 2 ^ 64 ≤ n:=by
 by_cases hlt:c < 128
 ·right
  refine ⟨_,_,h.last (Nat.le_refl _) ⟨by omega,hlt⟩ (fun hh=>by omega),?_⟩
  have:2 ≤ c.toNat:=by omega
  have h2:128 ^ 9 * 2 ≤ 128 ^ 9 * c.toNat:=Nat.mul_le_mul_left _ this
  have e:(2:Nat) ^ 64=128 ^ 9 * 2:=by decide
  omega
 ·left
  apply h.no
  left
  rw [show 10 - 9=0 + 1 from rfl,getG_more hlt]
  rfl

theorem PartG.fits {i acc:Nat} {c:Int} (hl:acc < 128 ^ i) (hi:i ≤ 9) (hc:0 ≤ c ∧ c < 128) (h9:i=9 → c ≤ 1):acc + 128 ^ i * c.toNat < 2 ^ 64:=by
 by_cases h:i=9
 ·subst h
  have:c.toNat ≤ 1:=by have:=h9 rfl;omega
  have h2:128 ^ 9 * c.toNat ≤ 128 ^ 9 * 1:=Nat.mul_le_mul_left _ this
  have e:(2:Nat) ^ 64=128 ^ 9 * 2:=by decide
  omega
 ·have h1:c.toNat ≤ 127:=by omega
  have h2:128 ^ i * c.toNat ≤ 128 ^ i * 127:=Nat.mul_le_mul_left _ h1
  have h3:128 ^ (i + 1) ≤ 128 ^ 9:=Nat.pow_le_pow_right (by decide) (by omega)
  rw [Nat.pow_succ] at h3
  have e:(2:Nat) ^ 64=128 ^ 9 * 2:=by decide
  omega

theorem same04_calls (a b:Option Addr) (cap cap2:Nat) (ps qs:List Int) (w:World) (h1:BsAt w a ps) (h2:BsAt w b qs) (hl1:ps.length ≤ 1073741824) (hl2:qs.length ≤ 1073741824) :
  Calls Tryz.prog 18 #[.slice a ps.length cap,.slice b qs.length cap2] w fun e w'=>e=.returned (.bool (decide (ps=qs))) ∧ Keeps w w':=by
 by_cases hne:ps.length=qs.length
 ·obtain ⟨N,hN⟩:∃ N,N=ps.length:=⟨_,rfl⟩
  have hM:N=qs.length:=hN.trans hne
  rw [← hM,← hN]
  rw [← hN] at hl1
  have H1:=Lib.hid h1
  have H2:=Lib.hid h2
  have HN:=Lib.hid hN
  have HM:=Lib.hid hM
  clear h1 h2 hN hM hne hl2
  go_enter Tryz.func18,Tryz.ntmps18
  go_wp2
  go_loopg [5] N (fun gk s5 wr=>∃ d:Nat,s5=.int .i64 (d:Int) ∧ d + gk=N ∧ (∀ i,i < d → ps[i]?=qs[i]?) ∧ Keeps w wr)
  case atStart=>exact ⟨0,rfl,by omega,fun i hi=>by omega,by (exact kp)⟩
  case round=>
   obtain ⟨d,rfl,hd,hn,hk⟩:=hrel
   have HNN:=Lib.hid hn
   clear hn
   by_cases hlt:d < N
   ·obtain ⟨x,hx⟩:∃ b,ps[d]?=some b:=⟨_,List.getElem?_eq_getElem (by rw [← HN.out];exact hlt)⟩
    obtain ⟨y,hy⟩:∃ b,qs[d]?=some b:=⟨_,List.getElem?_eq_getElem (by rw [← HM.out];exact hlt)⟩
    obtain ⟨b1,o1,rfl,c0⟩:=H1.out d x hx
    obtain ⟨b2,o2,rfl,c1⟩:=H2.out d y hy
    replace c0:=hk.cell c0
    replace c1:=hk.cell c1
    have HX:=Lib.hid hx
    have HY:=Lib.hid hy
    have i0:(0:Int) ≤ (d:Int):=by omega
    have i1:(d:Int) < (N:Int):=by omega
    clear hx hy
    by_cases hab:x=y
    ·subst hab
     go_wp2_with fail
     go_quiet (fail)
     go_wp2
     go_roundg (gk - 1)
     case rel=>
      refine ⟨d + 1,by simp,by omega,fun i hi=>?_,by (exact kp)⟩
      by_cases e:i=d
      ·subst e;rw [HX.out,HY.out]
      ·exact HNN.out i (by omega)
     case measure=>omega
    ·have gab:(x != y)=true:=by simp [hab]
     have hf:Hid (¬ ps=qs):=Lib.hid (fun e=>by have:=HX.out;rw [e,HY.out] at this;exact hab (Option.some.inj this).symm)
     go_wp2_with fail
     go_quiet (fail)
     go_wp2
     go_ret
     exact ⟨by rw [decide_eq_false hf.out];rfl,by (exact kp)⟩
   ·have hg0:d=N:=by omega
    have hh:ps=qs:=by
     apply List.ext_getElem?
     intro i
     by_cases hi:i < d
     ·exact HNN.out i hi
     ·rw [List.getElem?_eq_none (by rw [← HN.out];omega),List.getElem?_eq_none (by rw [← HM.out];omega)]
    have HH:=Lib.hid hh
    clear hg0 hh
    go_wp2_with fail
    go_ret
    exact ⟨by rw [decide_eq_true HH.out];rfl,hk⟩
 ·have hf:decide (ps=qs)=false:=decide_eq_false (fun e=>hne (by rw [e]))
  obtain ⟨N,hN⟩:∃ N,N=ps.length:=⟨_,rfl⟩
  obtain ⟨K,hK⟩:∃ K,K=qs.length:=⟨_,rfl⟩
  rw [hf]
  rw [← hN,← hK] at hne ⊢
  have gne:((N:Int) != (K:Int))=true:=by simp;omega
  clear h1 h2 hl1 hl2 hN hK hf hne
  go_enter Tryz.func18,Tryz.ntmps18
  go_wp2
  go_ret
  exact ⟨rfl,by (exact kp)⟩

open Go Go.RowKit

theorem bsRow_new (w:World) (x:Int):BsRow w.heap.size (w.alloc (.cells #[.int .u8 x] 5)) (.slice (some ⟨w.heap.size,0,none⟩) 1 1) [x]:=
 ⟨rfl,.inr ⟨w.heap.size,1,#[.int .u8 x],rfl,Nat.le_refl _,heap_alloc_new w _,Nat.le_refl _,by unfold maxLen;omega,rfl,rfl⟩⟩

theorem Upd.of_row' {w w':World} {v:Value} (h:w.grownBy w' v.ownBlock):Upd (fun k=>v.ownBlock=some k) w w':=⟨h.os,h.tape,h.output,h.size,fun i hi hne=>h.block i hi (fun e=>hne e.symm)⟩

set_option maxRecDepth 100000 in
theorem refBytes_calls:∀ (N n:Nat),n < N → n < 2 ^ 64 → ∀ (w:World),Calls Tryz.prog 53 #[.int .u64 (n:Int)] w fun e w'=>∃ v,e=.returned v ∧ BsRow w.heap.size w' v (putB n) ∧ Keeps w w':=by
 intro N
 induction N with
 | zero=>intro n h;omega
 | succ N ih=>
  intro n hN hn w
  by_cases hlt:n < 128
  ·have hr:=bsRow_new w (n:Int)
   rw [← putB_low hlt] at hr
   have HR:=Lib.hid hr
   clear hr hN
   have hwb:IntKind.u8.wrap (n:Int)=(n:Int):=by rw [wrap_byte,Nat.mod_eq_of_lt (by omega)]
   go_enter Tryz.func53,Tryz.ntmps53
   go_wp2
   go_ret
   exact ⟨_,rfl,HR.out,by (exact kp)⟩
  ·have e1:((n % 128 + 128:Nat):Int)=(n:Int) % 128 + 128:=by omega
   have e2:((n / 128:Nat):Int)=(n:Int) / 128:=by omega
   have hi:=fun (W:World)=>ih (n / 128) (by omega) (by omega) W
   rw [e2] at hi
   have HI:=Lib.hid hi
   have HR:=Lib.hid (bsRow_new w ((n:Int) % 128 + 128))
   have hp:=putB_more hlt
   have hwb:=wrap_byte (n % 128 + 128)
   rw [e1] at hp hwb
   rw [Nat.mod_eq_of_lt (by omega),e1] at hwb
   have HP:=Lib.hid hp
   have HL:=Lib.hid (putB_len10 (n:=n / 128) (by omega))
   have HPOS:=Lib.hid (putB_pos (n / 128))
   clear hi ih hN e1 e2 hp
   go_enter Tryz.func53,Tryz.ntmps53
   go_wp2_with (first
    | (go_at_call 53;refine (HI.out _).mono ?_;rintro e w1 ⟨v1,rfl,hr1,hk1⟩;have HR1:=Lib.hid hr1;have HK1:=Lib.hid hk1;have hs1:=hk1.size;simp only [World.size_alloc] at hs1;clear hr1 hk1)
    | (at_builtin;refine wpB_append rfl _ _ rfl w.heap.size _ _ _ _ _ rfl rfl (HR.out.keeps HK1.out) HR1.out (by have:=HL.out;simp only [List.length_singleton];omega) (by omega) ?_;intro v2 w2 hr2 hg2;have HR2:=Lib.hid hr2;have HG2:=Lib.hid hg2;clear hr2 hg2)
    | fail)
   go_ret
   refine ⟨v2,rfl,by rw [HP.out];exact HR2.out,((Keeps.refl w).alloc _ |>.trans HK1.out).new (Upd.of_row' HG2.out) (fun k hk=>?_)⟩
   exact row_from HR.out hk

def numB (bs:List Int):Option (Nat × List Int):=match getG 10 bs with
 | none=>none
 | some (n,r)=>if n < 2 ^ 64 then some (n,r) else none

def NumOut (bs:List Int) (e:Ending):Prop:=
 (∃ n size:Nat,e=.returned (.tuple #[.int .u64 (n:Int),.int .i64 (size:Int),.int .u8 0]) ∧ numB bs=some (n,bs.drop size) ∧ 0 < size ∧ size ≤ bs.length) ∨
 (∃ er:Int,e=.returned (.tuple #[.int .u64 0,.int .i64 0,.int .u8 er]) ∧ (er=7 ∨ er=11) ∧ numB bs=none)

theorem or_high {acc x:Nat} {i:Nat} (h:acc < 128 ^ i):acc ||| x * 128 ^ i=acc + 128 ^ i * x:=by
 have e:(128:Nat) ^ i=2 ^ (7 * i):=by rw [show (128:Nat)=2 ^ 7 from rfl,← Nat.pow_mul]
 rw [e] at h ⊢
 rw [Nat.mul_comm x,Nat.or_comm,← Nat.two_pow_add_eq_or_of_lt h,Nat.add_comm]

theorem and_127 (c:Int) (h:0 ≤ c ∧ c ≤ 255):bits BinOp.and IntKind.u8 c 127=((c.toNat % 128:Nat):Int):=by
 have key:∀ k:Fin 256,bits BinOp.and IntKind.u8 ((k.val:Nat):Int) 127=((k.val % 128:Nat):Int):=by decide +kernel
 have:=key ⟨c.toNat,by omega⟩
 have e:((c.toNat:Nat):Int)=c:=by omega
 simp only [e] at this
 exact this

theorem or_step {acc cm i:Nat} (h:acc < 128 ^ i) (hf:acc + 128 ^ i * cm < 2 ^ 64):bits BinOp.or IntKind.u64 (acc:Int) (IntKind.u64.wrap ((cm:Int) * 2 ^ (7 * i)))=((acc + 128 ^ i * cm:Nat):Int):=by
 have e:(128:Nat) ^ i=2 ^ (7 * i):=by rw [show (128:Nat)=2 ^ 7 from rfl,← Nat.pow_mul]
 have h1:((cm:Int) * 2 ^ (7 * i))=((cm * 128 ^ i:Nat):Int):=by rw [e];push_cast;rfl
 have h2:cm * 128 ^ i < 2 ^ 64:=by rw [Nat.mul_comm];omega
 have h3:IntKind.u64.wrap ((cm * 128 ^ i:Nat):Int)=((cm * 128 ^ i:Nat):Int):=by
  obtain ⟨X,hX⟩:∃ X,X=cm * 128 ^ i:=⟨_,rfl⟩
  rw [← hX] at h2 ⊢
  unfold IntKind.wrap
  simp [IntKind.signed,IntKind.bits]
  omega
 rw [h1,h3,bits_or_u64_nat _ _ (by omega) (by omega),or_high h]

set_option maxRecDepth 100000 in
set_option maxHeartbeats 1000000 in
theorem number_calls (a:Option Addr) (cap:Nat) (bs:List Int) (w:World) (h:BsAt w a bs) (hb:IsBs bs) (hl:bs.length ≤ 1073741824) :
  Calls Tryz.prog 165 #[.slice a bs.length cap] w fun e w'=>NumOut bs e ∧ w=w':=by
 obtain ⟨N,hN⟩:∃ N,N=bs.length:=⟨_,rfl⟩
 rw [← hN] at hl ⊢
 have H:=Lib.hid h
 have HN:=Lib.hid hN
 have HBS:=Lib.hid hb
 clear h hN hb
 go_enter Tryz.func165,Tryz.ntmps165
 go_wp2_with fail
 go_loopg [5,10] N (fun gk s5 s10 wr=>∃ (i acc:Nat),s5=.int .u64 (acc:Int) ∧ s10=.int .i64 (i:Int) ∧ i + gk=N ∧ i ≤ 9 ∧ PartG bs i acc (bs.drop i) ∧ w=wr)
 case atStart=>exact ⟨0,0,rfl,rfl,by omega,by omega,PartG.start bs,rfl⟩
 case round=>
  obtain ⟨i,acc,rfl,rfl,hi,hi9,hp,rfl⟩:=hrel
  have HP:=Lib.hid hp
  clear hp
  by_cases hlt:i < N
  ·obtain ⟨c,hc⟩:∃ c,bs[i]?=some c:=⟨_,List.getElem?_eq_getElem (by rw [← HN.out];exact hlt)⟩
   have hcr:=HBS.out c (List.mem_of_getElem? hc)
   obtain ⟨b,off,rfl,c0⟩:=H.out i c hc
   have hdrop:bs.drop i=c :: bs.drop (i + 1):=by
    rw [List.drop_eq_getElem_cons (by rw [← HN.out];exact hlt)]
    congr 1
    have:=List.getElem?_eq_getElem (l:=bs) (i:=i) (by rw [← HN.out];exact hlt)
    rw [hc] at this
    exact (Option.some.inj this).symm
   have hp:=HP.out
   rw [hdrop] at hp
   have HP2:=Lib.hid hp
   clear hp hdrop HP hc
   have i0:(0:Int) ≤ (i:Int):=by omega
   have i1:(i:Int) < (N:Int):=by omega
   have g10:((i:Int) == 10)=false:=by simp;omega
   by_cases hg:i=9 ∧ 1 < c
   ·obtain ⟨rfl,hc1⟩:=hg
    have HNO:Hid (numB bs=none):=Lib.hid (by
     unfold numB
     rcases HP2.out.great ⟨hc1,hcr.2⟩ with h | ⟨n,r,h,hn⟩
     ·rw [h]
     ·rw [h]
      simp only []
      rw [if_neg (by omega)])
    go_wp2_with fail
    refine bodyPost_ret (v:=.tuple #[.int .u64 0,.int .i64 0,.int .u8 7]) (by simp [results,Tryz.results165,go_sem]) rfl ?_
    exact ⟨.inr ⟨7,rfl,by decide,HNO.out⟩,rfl⟩
   ·by_cases hz:i ≠ 0 ∧ c=0
    ·obtain ⟨hi0,rfl⟩:=hz
     have HNO:Hid (numB bs=none):=Lib.hid (by
      unfold numB
      rw [HP2.out.zero hi9 hi0])
     have g9:((i:Int) == 9)=false ∨ ((i:Int) == 9)=true:=by cases ((i:Int) == 9) <;> simp
     have gi:(0:Int) < (i:Int):=by omega
     by_cases h9:i=9
     ·subst h9
      go_wp2_with fail
      refine bodyPost_ret (v:=.tuple #[.int .u64 0,.int .i64 0,.int .u8 7]) (by simp [results,Tryz.results165,go_sem]) rfl ?_
      exact ⟨.inr ⟨7,rfl,by decide,HNO.out⟩,rfl⟩
     ·have g9:((i:Int) == 9)=false:=by simp;omega
      go_wp2_with fail
      refine bodyPost_ret (v:=.tuple #[.int .u64 0,.int .i64 0,.int .u8 7]) (by simp [results,Tryz.results165,go_sem]) rfl ?_
      exact ⟨.inr ⟨7,rfl,by decide,HNO.out⟩,rfl⟩
    ·have hand:=and_127 c hcr
     obtain ⟨cm,hcm⟩:∃ cm,cm=c.toNat % 128:=⟨_,rfl⟩
     rw [← hcm] at hand
     have hcm127:cm ≤ 127:=by omega
     have hlow:=HP2.out.low
     by_cases hc8:c < 128
     ·have hcc:cm=c.toNat:=by omega
      have hfit:acc + 128 ^ i * cm < 2 ^ 64:=by rw [hcc];exact PartG.fits hlow hi9 ⟨hcr.1,hc8⟩ (fun h9=>by omega)
      have hor:=or_step hlow hfit
      have HOK:Hid (numB bs=some (acc + 128 ^ i * cm,bs.drop (i + 1))):=Lib.hid (by
       unfold numB
       rw [HP2.out.last hi9 ⟨hcr.1,hc8⟩ (fun hh=>hz hh),← hcc]
       simp only []
       rw [if_pos hfit])
      clear hcm hcc hfit hlow
      by_cases h9:i=9
      ·have g1:¬ (1 < c):=fun hh=>hg ⟨h9,hh⟩
       have g9:((i:Int) == 9)=true:=by simp [h9]
       have gc0:(c == 0)=false:=by simp;exact fun hh=>hz ⟨by omega,hh⟩
       have HI9:=Lib.hid h9
       clear h9 hg hz
       go_wp2_with fail
       all_goals refine bodyPost_ret (v:=.tuple #[.int .u64 ((acc + 128 ^ i * cm:Nat):Int),.int .i64 (((i + 1:Nat)):Int),.int .u8 0]) (by simp [results,Tryz.results165,go_sem,hor]) rfl ?_
       all_goals exact ⟨.inl ⟨_,_,rfl,HOK.out,by omega,by rw [← HN.out];omega⟩,rfl⟩
      ·have g9:((i:Int) == 9)=false:=by simp;omega
       by_cases hc0:c=0
       ·have hi0:i=0:=by
         by_cases h:i=0
         ·exact h
         ·exact absurd ⟨h,hc0⟩ hz
        have gi:¬ ((0:Int) < (i:Int)):=by omega
        have gi2:¬ (0 < i):=by omega
        have gc0:(c == 0)=true:=by simp [hc0]
        have HI0:=Lib.hid hi0
        have HC0:=Lib.hid hc0
        clear hi0 hc0 hg hz h9
        go_wp2_with fail
        all_goals refine bodyPost_ret (v:=.tuple #[.int .u64 ((acc + 128 ^ i * cm:Nat):Int),.int .i64 (((i + 1:Nat)):Int),.int .u8 0]) (by simp [results,Tryz.results165,go_sem,hor]) rfl ?_
        all_goals exact ⟨.inl ⟨_,_,rfl,HOK.out,by omega,by rw [← HN.out];omega⟩,rfl⟩
       ·have gc0:(c == 0)=false:=by simp [hc0]
        go_wp2_with fail
        all_goals refine bodyPost_ret (v:=.tuple #[.int .u64 ((acc + 128 ^ i * cm:Nat):Int),.int .i64 (((i + 1:Nat)):Int),.int .u8 0]) (by simp [results,Tryz.results165,go_sem,hor]) rfl ?_
        all_goals exact ⟨.inl ⟨_,_,rfl,HOK.out,by omega,by rw [← HN.out];omega⟩,rfl⟩
     ·have hi8:i < 9:=by
       by_cases h9:i=9
       ·exact absurd ⟨h9,by omega⟩ hg
       ·omega
      have hp3:=HP2.out.next hi8 ⟨by omega,hcr.2⟩
      rw [← hcm] at hp3
      have hfit:acc + 128 ^ i * cm < 2 ^ 64:=by
       have h3:128 ^ (i + 1) ≤ 128 ^ 9:=Nat.pow_le_pow_right (by decide) (by omega)
       have:=hp3.low
       have e:(2:Nat) ^ 64=128 ^ 9 * 2:=by decide
       omega
      have hor:=or_step hlow hfit
      have HP3:=Lib.hid hp3
      have g9:((i:Int) == 9)=false:=by simp;omega
      have gc0:(c == 0)=false:=by simp;omega
      clear hcm hp3 hfit hlow
      go_wp2_with fail
      all_goals first | (exfalso;omega) | skip
      go_roundg (gk - 1)
      case rel=>exact ⟨i + 1,acc + 128 ^ i * cm,by push_cast;rfl,by simp,by omega,by omega,HP3.out,rfl⟩
      case measure=>omega
  ·have hiN:i=N:=by omega
   have HNO:Hid (numB bs=none):=Lib.hid (by
    have hd:bs.drop i=[]:=List.drop_eq_nil_of_le (by rw [← HN.out];omega)
    have hp:=HP.out
    rw [hd] at hp
    unfold numB
    rw [hp.end hi9])
   subst hiN
   go_wp2_with fail
   refine bodyPost_ret (v:=.tuple #[.int .u64 0,.int .i64 0,.int .u8 11]) (by simp [results,Tryz.results165,go_sem]) rfl ?_
   exact ⟨.inr ⟨11,rfl,by decide,HNO.out⟩,rfl⟩

theorem bs_convert {w:World} {a:Option Addr} {ps:List Int} (h:BsAt w a ps) (cap:Nat):(convert 24 9 (.slice a ps.length cap)).run Tryz.prog w=.ok (.string (strOfNums ps)) w:=by
 cases a with
 | none=>
  have hn:ps=[]:=by
   cases ps with
   | nil=>rfl
   | cons x xs=>obtain ⟨b,off,h1,_⟩:=h 0 x rfl;cases h1
  subst hn
  rw [run_convert_bytes_nil w 24 5 (by kernel_rfl) (by kernel_rfl) _ cap 9 (by kernel_rfl)]
  rfl
 | some ad=>
  cases ps with
  | nil=>
   obtain ⟨b,off,fr⟩:=ad
   rw [run_convert_bytes_string w 24 9 5 _ _ cap (by kernel_rfl) (by kernel_rfl) (by kernel_rfl)]
   have:=run_bytesToString (P:=Tryz.prog) w ⟨b,off,fr⟩ 0 cap [] (by rfl)
   show _=Result.ok (Value.string ByteArray.empty) w
   simpa using this
  | cons x xs=>
   obtain ⟨b,off,h1,_⟩:=h 0 x rfl
   cases h1
   refine run_convert_bytes_arg w 24 5 (by kernel_rfl) (by kernel_rfl) b off _ cap (x :: xs) rfl (fun i hi=>?_) 9 (by kernel_rfl)
   obtain ⟨b2,off2,e1,e2⟩:=h i _ (List.getElem?_eq_getElem hi)
   cases e1
   rw [e2]
   simp [List.getD,List.getElem?_eq_getElem hi]

theorem strs_same {ps qs:List Int} (h1:IsBs ps) (h2:IsBs qs):strOfNums ps=strOfNums qs ↔ ps=qs:=by
 refine ⟨fun h=>?_,fun h=>by rw [h]⟩
 have hm:ps.map (fun n=>UInt8.ofNat n.toNat)=qs.map (fun n=>UInt8.ofNat n.toNat):=by
  rw [← strOfNums_data,← strOfNums_data,h]
 have hl:ps.length=qs.length:=by simpa using congrArg List.length hm
 refine List.ext_getElem hl (fun i hi hj=>?_)
 have he:(ps.map (fun n=>UInt8.ofNat n.toNat))[i]'(by simpa using hi)=(qs.map (fun n=>UInt8.ofNat n.toNat))[i]'(by simpa using hj):=by simp only [hm]
 rw [List.getElem_map,List.getElem_map] at he
 have r1:=h1 _ (List.getElem_mem hi)
 have r2:=h2 _ (List.getElem_mem hj)
 have e3:=congrArg UInt8.toNat he
 rw [UInt8.toNat_ofNat',UInt8.toNat_ofNat'] at e3
 omega

theorem bytesEqual_calls (a b:Option Addr) (cap cap2:Nat) (ps qs:List Int) (w:World) (h1:BsAt w a ps) (h2:BsAt w b qs) (i1:IsBs ps) (i2:IsBs qs) :
  Calls Tryz.prog 83 #[.slice a ps.length cap,.slice b qs.length cap2] w fun e w'=>e=.returned (.bool (decide (ps=qs))) ∧ w=w':=by
 have c1:=bs_convert h1 cap
 have c2:=bs_convert h2 cap2
 have hd:((strOfNums ps).toList == (strOfNums qs).toList)=decide (ps=qs):=by
  rw [Bool.eq_iff_iff,beq_iff_eq,decide_eq_true_iff,ByteArray.toList_eq,ByteArray.toList_eq,← strs_same i1 i2]
  refine ⟨fun h=>?_,fun h=>by rw [h]⟩
  have h2:(strOfNums ps).data=(strOfNums qs).data:=Array.toList_inj.1 h
  cases hp:strOfNums ps
  cases hq:strOfNums qs
  rw [hp,hq] at h2
  simp only at h2
  rw [h2]
 obtain ⟨N,hN⟩:∃ N,N=ps.length:=⟨_,rfl⟩
 obtain ⟨K,hK⟩:∃ K,K=qs.length:=⟨_,rfl⟩
 rw [← hN] at c1 ⊢
 rw [← hK] at c2 ⊢
 obtain ⟨s1,hs1⟩:∃ s,s=strOfNums ps:=⟨_,rfl⟩
 obtain ⟨s2,hs2⟩:∃ s,s=strOfNums qs:=⟨_,rfl⟩
 rw [← hs1] at c1 hd
 rw [← hs2] at c2 hd
 have HD:=Lib.hid hd
 clear h1 h2 i1 i2 hN hK hs1 hs2 hd
 go_enter Tryz.func83,Tryz.ntmps83
 go_wp2
 go_ret
 exact ⟨by rw [← HD.out];rfl,rfl⟩

set_option maxRecDepth 100000 in
theorem intsEqual_calls (a b:Option Addr) (cap cap2:Nat) (ps qs:List Int) (w:World) (h1:IntsAt w a ps) (h2:IntsAt w b qs) (hl1:ps.length ≤ 1073741824) (hl2:qs.length ≤ 1073741824) :
  Calls Tryz.prog 39 #[.slice a ps.length cap,.slice b qs.length cap2] w fun e w'=>e=.returned (.bool (decide (ps=qs))) ∧ Keeps w w':=by
 by_cases hne:ps.length=qs.length
 ·obtain ⟨N,hN⟩:∃ N,N=ps.length:=⟨_,rfl⟩
  have hM:N=qs.length:=hN.trans hne
  rw [← hM,← hN]
  rw [← hN] at hl1
  have H1:=Lib.hid h1
  have H2:=Lib.hid h2
  have HN:=Lib.hid hN
  have HM:=Lib.hid hM
  clear h1 h2 hN hM hne hl2
  go_enter Tryz.func39,Tryz.ntmps39
  go_wp2
  go_loopg [13] N (fun gk s13 wr=>∃ d:Nat,s13=.int .i64 (d:Int) ∧ d + gk=N ∧ (∀ i,i < d → ps[i]?=qs[i]?) ∧ Keeps w wr)
  case atStart=>exact ⟨0,rfl,by omega,fun i hi=>by omega,by (exact kp)⟩
  case round=>
   obtain ⟨d,rfl,hd,hn,hk⟩:=hrel
   have HNN:=Lib.hid hn
   clear hn
   by_cases hlt:d < N
   ·obtain ⟨x,hx⟩:∃ b,ps[d]?=some b:=⟨_,List.getElem?_eq_getElem (by rw [← HN.out];exact hlt)⟩
    obtain ⟨y,hy⟩:∃ b,qs[d]?=some b:=⟨_,List.getElem?_eq_getElem (by rw [← HM.out];exact hlt)⟩
    obtain ⟨b1,o1,rfl,c0⟩:=H1.out d x hx
    obtain ⟨b2,o2,rfl,c1⟩:=H2.out d y hy
    replace c0:=hk.cell c0
    replace c1:=hk.cell c1
    have HX:=Lib.hid hx
    have HY:=Lib.hid hy
    have i0:(0:Int) ≤ (d:Int):=by omega
    have i1:(d:Int) < (N:Int):=by omega
    clear hx hy
    by_cases hab:x=y
    ·subst hab
     go_wp2_with fail
     go_quiet (fail)
     go_wp2
     go_roundg (gk - 1)
     case rel=>
      refine ⟨d + 1,by simp,by omega,fun i hi=>?_,by (exact kp)⟩
      by_cases e:i=d
      ·subst e;rw [HX.out,HY.out]
      ·exact HNN.out i (by omega)
     case measure=>omega
    ·have gab:(x != y)=true:=by simp [hab]
     have hf:Hid (¬ ps=qs):=Lib.hid (fun e=>by have:=HX.out;rw [e,HY.out] at this;exact hab (Option.some.inj this).symm)
     go_wp2_with fail
     go_quiet (fail)
     go_wp2
     go_ret
     exact ⟨by rw [decide_eq_false hf.out];rfl,by (exact kp)⟩
   ·have hg0:d=N:=by omega
    have hh:ps=qs:=by
     apply List.ext_getElem?
     intro i
     by_cases hi:i < d
     ·exact HNN.out i hi
     ·rw [List.getElem?_eq_none (by rw [← HN.out];omega),List.getElem?_eq_none (by rw [← HM.out];omega)]
    have HH:=Lib.hid hh
    clear hg0 hh
    go_wp2_with fail
    go_ret
    exact ⟨by rw [decide_eq_true HH.out];rfl,hk⟩
 ·have hf:decide (ps=qs)=false:=decide_eq_false (fun e=>hne (by rw [e]))
  obtain ⟨N,hN⟩:∃ N,N=ps.length:=⟨_,rfl⟩
  obtain ⟨K,hK⟩:∃ K,K=qs.length:=⟨_,rfl⟩
  rw [hf]
  rw [← hN,← hK] at hne ⊢
  have gne:((N:Int) != (K:Int))=true:=by simp;omega
  clear h1 h2 hl1 hl2 hN hK hf hne
  go_enter Tryz.func39,Tryz.ntmps39
  go_wp2
  go_ret
  exact ⟨rfl,by (exact kp)⟩

end Go.Proofs.YtfpjogpjocedaaaGreat
