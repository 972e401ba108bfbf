/-
  ramageref21.Weigh: the sum of what a table's rows weigh, as digits.
-/
import Derived.Test.YtpgcbmbnognieaaGreatPNatX
import Derived.Test.YtpgcbmbnognieaaGreatPTableW
import Derived.Test.YtpgcbmbnognieaaGreatPWeighT
import Derived.Maps.OwnSet
import Derived.Maps.Keyed
import Derived.DeepKeys4
namespace Go.Proofs.YtpgcbmbnognieaaGreat
set_option linter.unusedSimpArgs false
set_option linter.unusedVariables false
set_option maxHeartbeats 600000
open Go.RowKit

def wtF (ls:List Int) (k:Nat):Int:=ls.getD k 0

theorem wtF_at {ls:List Int} {k:Nat} {x:Int} (h:ls[k]?=some x):wtF ls k=x:=by
 unfold wtF
 rw [List.getD_eq_getElem?_getD,h]
 rfl

theorem wtF_range {ls:List Int} (h:WordsOk B64 ls) (k:Nat):0 ≤ wtF ls k ∧ wtF ls k < B64:=by
 unfold wtF
 rw [List.getD_eq_getElem?_getD]
 cases hk:ls[k]? with
 | none=>exact ⟨Int.le_refl _,by decide⟩
 | some x=>exact h x (List.mem_of_getElem? hk)

theorem madd_calls {lo lo' u v:Nat} {x y:Value} {w:World} (hx:NatV lo w u x) (hy:NatV lo' w v y) (hu:(natW B64 u).length ≤ 32) (hv:(natW B64 v).length ≤ 32) :
  Calls Tryz.prog 196 #[x,y] w fun e w'=>∃ z,e=.returned z ∧ NatV w.heap.size w' (u + v) z ∧ Keeps w w':=by
 have H:=Lib.hid (nadd_calls hx hy hu hv)
 clear hx hy
 go_enter Tryz.func196,Tryz.ntmps196
 go_wp2_with (first | (go_at_call 240;refine H.out.mono ?_;rintro e w1 ⟨z,rfl,hz,hk⟩) | fail)
 go_ret
 exact ⟨z,rfl,hz,hk⟩

theorem mmul_calls {lo lo' u v:Nat} {x y:Value} {w:World} (hx:NatV lo w u x) (hy:NatV lo' w v y) (hu:(natW B64 u).length ≤ 32) (hv:(natW B64 v).length ≤ 32) :
  Calls Tryz.prog 138 #[x,y] w fun e w'=>∃ z,e=.returned z ∧ NatV w.heap.size w' (u * v) z ∧ Keeps w w':=by
 have H:=Lib.hid (nmul_calls hx hy hu hv)
 clear hx hy
 go_enter Tryz.func138,Tryz.ntmps138
 go_wp2_with (first | (go_at_call 197;refine H.out.mono ?_;rintro e w1 ⟨z,rfl,hz,hk⟩) | fail)
 go_ret
 exact ⟨z,rfl,hz,hk⟩

theorem msub_calls {lo lo' u v:Nat} {x y:Value} {w:World} (hx:NatV lo w u x) (hy:NatV lo' w v y) (hle:v ≤ u) (hu:(natW B64 u).length ≤ 64) (hv:(natW B64 v).length ≤ 64) :
  Calls Tryz.prog 195 #[x,y] w fun e w'=>∃ z,e=.returned z ∧ NatV w.heap.size w' (u - v) z ∧ Keeps w w':=by
 have H:=Lib.hid (nsub_calls hx hy hle hu hv)
 clear hx hy
 go_enter Tryz.func195,Tryz.ntmps195
 go_wp2_with (first | (go_at_call 239;refine H.out.mono ?_;rintro e w1 ⟨z,rfl,hz,hk⟩) | fail)
 go_ret
 exact ⟨z,rfl,hz,hk⟩

theorem NatV.upd {lo:Nat} {w w':World} {v:Nat} {x:Value} {G:Nat → Prop} (h:NatV lo w v x) (hu:Upd G w w') (hg:∀ k,G k → k < lo):NatV lo w' v x:=by
 obtain ⟨a,cap,h1,h2,h3⟩:=h
 refine ⟨a,cap,h1,h2,fun hn=>?_⟩
 obtain ⟨g,e1,e2,e3⟩:=h3 hn
 exact ⟨g,e1,e2,e3.keep hu (fun hh=>by have:=hg g hh;omega)⟩

theorem NatV.map {lo:Nat} {w w':World} {v:Nat} {x:Value} {mb:Nat} (h:NatV lo w v x) (hm:∃ es clock,w.heap[mb]?=some (.map es clock)) (hu:Upd (fun k=>k=mb) w w'):NatV lo w' v x:=by
 obtain ⟨a,cap,h1,h2,h3⟩:=h
 refine ⟨a,cap,h1,h2,fun hn=>?_⟩
 obtain ⟨g,e1,e2,e3⟩:=h3 hn
 refine ⟨g,e1,e2,e3.keep hu (fun hh=>?_)⟩
 obtain ⟨es,clock,hb⟩:=hm
 obtain ⟨cur,c1,_⟩:=e3
 rw [hh,hb] at c1
 cases c1

def Nums (w:World) (a:Option Addr) (ls:List Int):Prop:=∀ i x,ls[i]?=some x → ∃ b v,a=some ⟨b,0,none⟩ ∧ w.cell? ⟨b,i,none⟩=some v ∧ NatV 0 w x.toNat v

theorem Nums.keeps {w w':World} {a:Option Addr} {ls:List Int} (h:Nums w a ls) (hk:Keeps w w'):Nums w' a ls:=fun i x hx=>by
 obtain ⟨b,v,h1,h2,h3⟩:=h i x hx
 exact ⟨b,v,h1,hk.cell h2,h3.keeps hk⟩

theorem cell_ne_map {w:World} {mb b o:Nat} {v:Value} (hm:∃ es clock,w.heap[mb]?=some (.map es clock)) (h:w.cell? ⟨b,o,none⟩=some v):b ≠ mb:=by
 obtain ⟨es,clock,hb⟩:=hm
 intro e
 subst e
 simp [World.cell?,hb] at h

theorem Nums.map {w w':World} {a:Option Addr} {ls:List Int} {mb:Nat} (h:Nums w a ls) (hm:∃ es clock,w.heap[mb]?=some (.map es clock)) (hu:Upd (fun k=>k=mb) w w'):Nums w' a ls:=fun i x hx=>by
 obtain ⟨b,v,h1,h2,h3⟩:=h i x hx
 exact ⟨b,v,h1,hu.cellAt (fun e=>cell_ne_map hm h2 e) h2,h3.map hm hu⟩

theorem info_words:(Tryz.prog.info? 26).map (fun i=>(i.zero,i.size,i.bytes))=some (some (.slice none 0 0),1,24):=by kernel_rfl

def NumRow (w:World) (g n d:Nat) (ls:List Int):Prop:=∃ cur:Array Value,w.heap[g]?=some (.cells cur 26 (0,0)) ∧ cur.size=n ∧ ∀ i x,i < d → ls[i]?=some x → ∃ v,cur[i]?=some v ∧ NatV (g + 1) w x.toNat v

theorem NumRow.lt {w:World} {g n d:Nat} {ls:List Int} (h:NumRow w g n d ls):g < w.heap.size:=by
 obtain ⟨cur,h1,_⟩:=h
 exact lt_of_heap h1

theorem NumRow.old {w:World} {g n d:Nat} {ls:List Int} (h:NumRow w g n d ls) {i:Nat} (hi:i < n):(∃ v,w.cell? ⟨g,i,none⟩=some v) ∧ w.frozen? ⟨g,i,none⟩=false:=by
 obtain ⟨cur,h1,h2,_⟩:=h
 refine ⟨⟨cur[i]'(by omega),?_⟩,frozen_of_row w g i _ _ h1⟩
 rw [cell_of_row w g i _ _ _ h1,Array.getElem?_eq_getElem (by omega)]

theorem NumRow.keeps {w w':World} {g n d:Nat} {ls:List Int} (h:NumRow w g n d ls) (hk:Keeps w w'):NumRow w' g n d ls:=by
 have hl:=h.lt
 obtain ⟨cur,h1,h2,h3⟩:=h
 refine ⟨cur,(hk.block g hl).trans h1,h2,fun i x hi hx=>?_⟩
 obtain ⟨v,q1,q2⟩:=h3 i x hi hx
 exact ⟨v,q1,q2.keeps hk⟩

theorem NumRow.set {w:World} {g n d:Nat} {ls:List Int} (h:NumRow w g n d ls) (hd:d < n) {x:Int} {v:Value} (hx:ls[d]?=some x) (hv:NatV (g + 1) w x.toNat v):NumRow (w.setCell ⟨g,d,none⟩ v) g n (d + 1) ls:=by
 obtain ⟨cur,h1,h2,h3⟩:=h
 have hu:Upd (fun k=>k=g) w (w.setCell ⟨g,d,none⟩ v):=Upd.setCell (Upd.refl (fun k=>k=g) w) (Or.inl rfl) _
 refine ⟨_,Go.heap_setCell_same w g d _ _ v h1,by simp [h2],fun i y hi hy=>?_⟩
 rw [Array.getElem?_setIfInBounds]
 by_cases hid:d=i
 ·subst hid
  rw [hx] at hy
  cases hy
  rw [if_pos rfl,if_pos (by omega)]
  exact ⟨v,rfl,hv.upd hu (fun k hk=>by omega)⟩
 ·rw [if_neg hid]
  obtain ⟨u,q1,q2⟩:=h3 i y (by omega) hy
  exact ⟨u,q1,q2.upd hu (fun k hk=>by omega)⟩

theorem NumRow.nums {w:World} {g n d:Nat} {ls:List Int} (h:NumRow w g n d ls) (hd:ls.length ≤ d):Nums w (some ⟨g,0,none⟩) ls:=fun i x hx=>by
 have hi:=(List.getElem?_eq_some_iff.1 hx).1
 obtain ⟨cur,h1,h2,h3⟩:=h
 obtain ⟨v,q1,q2⟩:=h3 i x (by omega) hx
 refine ⟨g,v,rfl,?_,q2.le (Nat.zero_le _)⟩
 rw [cell_of_row w g i _ _ _ h1,q1]

theorem numRow_made {w:World} {blk n:Nat} {ls:List Int} {xs:List Value} (h:w.ownsRow blk 26 1 (.slice (some ⟨blk,0,none⟩) n n) n xs):NumRow w blk n 0 ls:=by
 obtain ⟨cur0,hcur0⟩:=owns_type h (k:=blk) rfl
 rcases h.2 with ⟨h0,_⟩ | ⟨g',cap',cur,hv,hb,hg,hc,_,hs,ht⟩
 ·cases h0
 ·cases hv
  refine ⟨cur,hg,by omega,fun i x hi=>by omega⟩

set_option maxRecDepth 100000 in
theorem numbers_calls (a:Option Addr) (cap:Nat) (ls:List Int) (w:World) (h:WordsAt w a ls) (hl:ls.length ≤ 1000) :
  Calls Tryz.prog 68 #[.slice a ls.length cap] w fun e w'=>(∃ b,e=.returned (.slice b ls.length ls.length) ∧ Nums w' b ls) ∧ Keeps w w':=by
 obtain ⟨j0,hj,jz0,jz1,jz2⟩:=info_parts info_words
 obtain ⟨N,hN⟩:∃ N,N=ls.length:=⟨_,rfl⟩
 rw [← hN] at hl ⊢
 have HN:=Lib.hid hN
 have HW:=Lib.hid h
 clear hN h
 go_enter Tryz.func68,Tryz.ntmps68
 go_wp2_with (first
  | (at_make;refine wpList_make_full _ rfl _ _ 129 rfl w.heap.size 26 j0 (.slice none 0 0) 1 Tryz.underlying129 hj jz0 jz1 .i64 .i64 _ _ N rfl rfl rfl rfl (by rw [jz2];omega) (by unfold maxLen;omega) (by simp) ?_;intro w1 hown1 hg1)
  | fail)
 have HR1:=Lib.hid (numRow_made (ls:=ls) hown1)
 have hkk:Keeps w w1:=⟨hg1.os,hg1.tape,hg1.output,hg1.size,fun i hi=>hg1.block i hi (by simp)⟩
 clear hown1 hg1
 go_wp2_with fail
 go_loopg [4,5,11] N (fun gk s4 s5 s11 wr=>∃ d:Nat,s11=.int .i64 (d:Int) ∧ d + gk=N ∧ NumRow wr w.heap.size N d ls ∧ Keeps w wr)
 case atStart=>exact ⟨0,rfl,by omega,HR1.out,hkk⟩
 case round=>
  obtain ⟨d,rfl,hdg,hrow,hk⟩:=hrel
  have HR:=Lib.hid hrow
  clear hrow
  by_cases hd:d < N
  ·obtain ⟨x,b,off,hx,hx0,hx1,ha,hcell⟩:=word_at (HW.out.keeps hk) d (by rw [← HN.out];exact hd)
   subst ha
   obtain ⟨n,rfl⟩:=Int.eq_ofNat_of_zero_le hx0
   have hbl:=lt_of_cell hcell
   have q0:(d:Int) < (N:Int):=by omega
   have hn64:n < 2 ^ 64:=by omega
   have HX:=Lib.hid hx
   have HDG:=Lib.hid hdg
   clear hx hdg hx0 hx1
   have hlt:=HR.out.lt
   go_wp2_with (first
    | (go_at_call 135;refine (natOf_calls n _ hn64).mono ?_;rintro e w2 ⟨v,rfl,hv,hk2⟩;have HR2:=Lib.hid (HR.out.keeps hk2);have HV2:=Lib.hid (hv.le (show w.heap.size + 1 ≤ wr.heap.size by have:=hk.size;omega));obtain ⟨⟨old,cold⟩,cfz⟩:=HR2.out.old hd;have hlt2:=HR2.out.lt;obtain ⟨av,cv,rfl,-,-⟩:=natV_len hv;clear hv)
    | fail)
   go_roundg (gk - 1)
   case rel=>exact ⟨d + 1,congrArg (Value.int .i64) (by omega),by have:=HDG.out;omega,HR2.out.set hd HX.out (by rw [Int.toNat_natCast];exact HV2.out),(hk.trans hk2).new ((Upd.refl (fun k=>k=w.heap.size) _).setCell (Or.inl rfl) _) (fun k hk=>by omega)⟩
   case measure=>have:=HDG.out;omega
  ·have q0:¬ (d:Int) < (N:Int):=by omega
   have hNU:=HR.out.nums (by rw [← HN.out];omega)
   have HNU:=Lib.hid hNU
   clear hNU hdg
   go_wp2_with fail
   go_ret
   exact ⟨⟨_,rfl,HNU.out⟩,hk⟩

structure ScaleAt (w:World) (cb sb mb n:Nat) (f:Int) (ls hs:List Int):Prop where
 c0:w.cell? ⟨cb,0,none⟩=some (.pointer (some ⟨sb,0,none⟩))
 c1:w.cell? ⟨cb,1,none⟩=some (.int .u8 f)
 c2:∃ al cl,w.cell? ⟨cb,2,none⟩=some (.slice al n cl) ∧ Nums w al ls
 c3:∃ ah ch,w.cell? ⟨cb,3,none⟩=some (.slice ah n ch) ∧ Nums w ah hs
 c4:w.cell? ⟨cb,4,none⟩=some (.map (some mb))
 len:ls.length=n ∧ hs.length=n
 small:n ≤ 8
 words:WordsOk B64 ls ∧ WordsOk B64 hs

theorem ScaleAt.keeps {w w':World} {cb sb mb n:Nat} {f:Int} {ls hs:List Int} (h:ScaleAt w cb sb mb n f ls hs) (hk:Keeps w w'):ScaleAt w' cb sb mb n f ls hs:=by
 obtain ⟨al,cl,q1,q2⟩:=h.c2
 obtain ⟨ah,ch,q3,q4⟩:=h.c3
 exact ⟨hk.cell h.c0,hk.cell h.c1,⟨al,cl,hk.cell q1,q2.keeps hk⟩,⟨ah,ch,hk.cell q3,q4.keeps hk⟩,hk.cell h.c4,h.len,h.small,h.words⟩

theorem ScaleAt.map {w w':World} {cb sb mb n:Nat} {f:Int} {ls hs:List Int} (h:ScaleAt w cb sb mb n f ls hs) (hm:∃ es clock,w.heap[mb]?=some (.map es clock)) (hu:Upd (fun k=>k=mb) w w'):ScaleAt w' cb sb mb n f ls hs:=by
 obtain ⟨al,cl,q1,q2⟩:=h.c2
 obtain ⟨ah,ch,q3,q4⟩:=h.c3
 have go:∀ {o:Nat} {v:Value},w.cell? ⟨cb,o,none⟩=some v → w'.cell? ⟨cb,o,none⟩=some v:=fun hv=>hu.cellAt (fun e=>cell_ne_map hm hv e) hv
 exact ⟨go h.c0,go h.c1,⟨al,cl,go q1,q2.map hm hu⟩,⟨ah,ch,go q3,q4.map hm hu⟩,go h.c4,h.len,h.small,h.words⟩

def sideW (ls hs:List Int) (both:Bool):Nat → Int:=if both then bothW (wtF ls) (wtF hs) else wtF ls

theorem sideW_range {ls hs:List Int} (hl:WordsOk B64 ls) (hh:WordsOk B64 hs) (both:Bool) (k:Nat):0 ≤ sideW ls hs both k ∧ sideW ls hs both k ≤ 2 * B64:=by
 have h1:=wtF_range hl k
 have h2:=wtF_range hh k
 unfold sideW bothW
 cases both
 ·rw [if_neg (by simp)];omega
 ·rw [if_pos rfl];show 0 ≤ wtF ls k + wtF hs k ∧ wtF ls k + wtF hs k ≤ 2 * B64;omega

theorem prW_small {h:Nat → Int} (h0:∀ j,0 ≤ h j ∧ h j ≤ 2 * B64) (m:Nat):∀ d,0 ≤ prW h m d ∧ prW h m d ≤ ((2 * B64:Nat):Int) ^ d:=by
 intro d
 have h1:=prW_nonneg (fun j=>(h0 j).1) m d
 have h2:=prW_le (h':=fun _=>((2 * B64:Nat):Int)) (fun j=>(h0 j).1) (fun j=>by push_cast;exact (h0 j).2) m d
 rw [prW_const] at h2
 exact ⟨h1,h2⟩

theorem small_words {v:Int} {d:Nat} (h0:0 ≤ v) (h1:v ≤ ((2 * B64:Nat):Int) ^ d) (hd:d ≤ 8):(natW B64 v.toNat).length ≤ 9:=by
 refine natW_len b64_two ?_
 have e:(((2 * B64) ^ d:Nat):Int)=((2 * B64:Nat):Int) ^ d:=Int.natCast_pow _ _
 have h2:(2 * B64) ^ d ≤ (2 * B64) ^ 8:=Nat.pow_le_pow_right (by decide) hd
 have h3:(2 * B64) ^ 8 < B64 ^ 9:=by decide
 omega

set_option maxRecDepth 100000 in
set_option maxHeartbeats 400000 in
theorem prod_calls {w:World} {cb sb mb n:Nat} {f:Int} {ls hs:List Int} (h:ScaleAt w cb sb mb n f ls hs) (a b:Nat) (hb:b ≤ n) (ha:a ≤ n) (both:Bool) :
  Calls Tryz.prog 139 #[.pointer (some ⟨cb,0,none⟩),.int .i64 (a:Int),.int .i64 (b:Int),.bool both] w fun e w'=>∃ x,e=.returned x ∧ NatV w.heap.size w' (prW (sideW ls hs both) a (b - a)).toNat x ∧ Keeps w w':=by
 have hr:=sideW_range h.words.1 h.words.2 both
 have hps:=fun d=>prW_small hr a d
 have hlen:∀ d,d ≤ 8 → (natW B64 (prW (sideW ls hs both) a d).toNat).length ≤ 9:=fun d hd=>small_words (hps d).1 (hps d).2 hd
 have hsl:∀ k,(natW B64 (sideW ls hs both k).toNat).length ≤ 9:=fun k=>small_words (d:=1) (hr k).1 (by rw [Int.pow_succ,Int.pow_zero,Int.one_mul];push_cast;exact (hr k).2) (by decide)
 have hstep:∀ d k,k=a + d → (prW (sideW ls hs both) a d).toNat * (sideW ls hs both k).toNat=(prW (sideW ls hs both) a (d + 1)).toNat:=fun d k hk=>by
  subst hk
  have h1:=(hps d).1
  have h2:=(hr (a + d)).1
  obtain ⟨X,hX⟩:=Int.eq_ofNat_of_zero_le h1
  obtain ⟨Y,hY⟩:=Int.eq_ofNat_of_zero_le h2
  show _=(prW (sideW ls hs both) a d * sideW ls hs both (a + d)).toNat
  rw [hX,hY,← Int.natCast_mul,Int.toNat_natCast,Int.toNat_natCast,Int.toNat_natCast]
 have hlw:=fun k=>wtF_range h.words.1 k
 have hhw:=fun k=>wtF_range h.words.2 k
 obtain ⟨al,cl,k2,n2⟩:=h.c2
 obtain ⟨ah,ch,k3,n3⟩:=h.c3
 have hll:=h.len.1
 have hhl:=h.len.2
 have h8:=h.small
 have hcb:=lt_of_cell h.c0
 have HN2:=Lib.hid n2
 have HN3:=Lib.hid n3
 have HLL:=Lib.hid hll
 have HHL:=Lib.hid hhl
 have HLE:=Lib.hid hlen
 have HSL:=Lib.hid hsl
 have HST:=Lib.hid hstep
 have HLW:=Lib.hid hlw
 have HHW:=Lib.hid hhw
 have hdd:b - a ≤ 8:=by omega
 clear h hr hps hlen hsl hstep hlw hhw n2 n3 hll hhl
 dsimp only at hcb
 go_enter Tryz.func139,Tryz.ntmps139
 go_wp2_with (first
  | (go_at_call 135;refine (natOf_calls 1 _ (by decide)).mono ?_;rintro e w1 ⟨v,rfl,hv,hk1⟩;have HV:=Lib.hid hv;clear hv)
  | fail)
 go_loopg [9,10,11] (b - a) (fun gk s9 s10 s11 wr=>∃ (d:Nat) (x:Value),s9=x ∧ s10=.int .i64 ((a:Int) + (d:Int)) ∧ d + gk=b - a ∧ NatV w.heap.size wr (prW (sideW ls hs both) a d).toNat x ∧ Keeps w wr)
 case atStart=>exact ⟨0,v,rfl,by simp,by omega,HV.out,hk1⟩
 case round=>
  obtain ⟨d,x,rfl,rfl,hdg,hx,hk⟩:=hrel
  have HX:=Lib.hid hx
  have HDG:=Lib.hid hdg
  clear hx
  by_cases hlt:(a:Int) + (d:Int) < (b:Int)
  ·have hkn:a + d < n:=by omega
   have hgk:1 ≤ gk:=by omega
   obtain ⟨p,hp⟩:∃ p,ls[a + d]?=some p:=⟨_,List.getElem?_eq_getElem (by rw [HLL.out];exact hkn)⟩
   obtain ⟨q,hq⟩:∃ q,hs[a + d]?=some q:=⟨_,List.getElem?_eq_getElem (by rw [HHL.out];exact hkn)⟩
   obtain ⟨b1,v1,ha1,hc1,hv1⟩:=(HN2.out.keeps hk) (a + d) p hp
   obtain ⟨b2,v2,ha2,hc2,hv2⟩:=(HN3.out.keeps hk) (a + d) q hq
   have r1:=HLW.out (a + d)
   have r2:=HHW.out (a + d)
   rw [wtF_at hp] at r1
   rw [wtF_at hq] at r2
   subst ha1
   subst ha2
   have kk2:=hk.cell k2
   have kk3:=hk.cell k3
   have hb1:=lt_of_cell hc1
   have hb2:=lt_of_cell hc2
   have hcb2:=lt_of_cell kk2
   have HV1:=Lib.hid hv1
   have HV2:=Lib.hid hv2
   have HSTEP:=Lib.hid (HST.out d (a + d) rfl)
   have hxl:=HLE.out d (by omega)
   have hs0:=HSL.out (a + d)
   have hside:sideW ls hs both (a + d)=if both then p + q else p:=by
    unfold sideW bothW
    cases both
    ·rw [if_neg (by simp),if_neg (by simp),wtF_at hp]
    ·rw [if_pos rfl,if_pos rfl];show wtF ls (a + d) + wtF hs (a + d)=p + q;rw [wtF_at hp,wtF_at hq]
   have e1:(a:Int) + (d:Int)=((a + d:Nat):Int):=by omega
   have hpl:(natW B64 p.toNat).length ≤ 1:=natW_len b64_two (by rw [Nat.pow_one];omega)
   have hql:(natW B64 q.toNat).length ≤ 1:=natW_len b64_two (by rw [Nat.pow_one];omega)
   obtain ⟨A1,C1,rfl,-,-⟩:=natV_len hv1
   obtain ⟨A2,C2,rfl,-,-⟩:=natV_len hv2
   clear hp hq hv1 hv2 hdg
   rw [e1] at hlt ⊢
   obtain ⟨k,hk0⟩:∃ k,k=a + d:=⟨_,rfl⟩
   rw [← hk0] at hlt hc1 hc2 HSTEP hs0 hside hkn ⊢
   have HK:=Lib.hid hk0
   have hkn2:(k:Int) < (n:Int):=by omega
   clear hk0 e1
   cases both with
   | true=>
    rw [if_pos rfl] at hside
    have hsum:p.toNat + q.toNat=(sideW ls hs true k).toNat:=by rw [hside];omega
    have HSUM:=Lib.hid hsum
    clear hside hsum r1 r2
    go_wp2_with (first
     | (go_at_call 196;refine (madd_calls HV1.out HV2.out (by omega) (by omega)).mono ?_;rintro e w4 ⟨z,rfl,hz,hk4⟩;rw [HSUM.out] at hz;have HZ:=Lib.hid hz;clear hz)
     | (go_at_call 138;refine (mmul_calls (HX.out.keeps hk4) HZ.out (by omega) (by omega)).mono ?_;rintro e w5 ⟨z5,rfl,hz5,hk5⟩;rw [HSTEP.out] at hz5;have HZ5:=Lib.hid hz5;clear hz5)
     | fail)
    go_roundg (gk - 1)
    case rel=>exact ⟨d + 1,z5,rfl,congrArg (Value.int .i64) (by have:=HK.out;omega),by have:=HDG.out;omega,HZ5.out.le (by have:=hk.size;have:=hk4.size;omega),(hk.trans hk4).trans hk5⟩
    case measure=>have:=HDG.out;have:=HK.out;omega
   | false=>
    rw [if_neg (by simp)] at hside
    have hsum:p.toNat=(sideW ls hs false k).toNat:=by rw [hside]
    have HSUM:=Lib.hid hsum
    clear hside hsum r1 r2
    go_wp2_with (first
     | (go_at_call 138;refine (mmul_calls HX.out HV1.out (by omega) (by omega)).mono ?_;rintro e w5 ⟨z5,rfl,hz5,hk5⟩;rw [HSUM.out,HSTEP.out] at hz5;have HZ5:=Lib.hid hz5;clear hz5)
     | fail)
    go_roundg (gk - 1)
    case rel=>exact ⟨d + 1,z5,rfl,congrArg (Value.int .i64) (by have:=HK.out;omega),by have:=HDG.out;omega,HZ5.out.le (by have:=hk.size;omega),hk.trans hk5⟩
    case measure=>have:=HDG.out;have:=HK.out;omega
  ·have hd:d=b - a ∨ b < a:=by omega
   have hde:d=b - a:=by omega
   have HDE:=Lib.hid hde
   clear hd hde hdg
   go_wp2_with fail
   go_ret
   rw [← HDE.out]
   exact ⟨_,rfl,HX.out,hk⟩

open Go Go.RowKit

def heldElem (v:Value):Option (DataW Value × List MemPlace):=some (.held v,[])

structure KeptOk (P:Int → Nat) (w:World) (S:List Int) (D:DataW Value):Prop where
 isMap:Maps.IsMap D
 keys:∀ x,Maps.has D (.int .u32 x)=true ↔ x ∈ S
 vals:∀ x ∈ S,∃ v,(∀ z,D.atKey (.int .u32 x) z=.held v) ∧ NatV 0 w (P x) v

def KeptMap (P:Int → Nat) (w:World) (mb:Nat) (S:List Int):Prop:=∃ D,w.ownsMap Tryz.prog 23 heldElem mb S.length D ∧ KeptOk P w S D

theorem KeptMap.block {P:Int → Nat} {w:World} {mb:Nat} {S:List Int} (h:KeptMap P w mb S):∃ es clock,w.heap[mb]?=some (.map es clock):=by
 obtain ⟨D,⟨es,clock,hb,_⟩,_⟩:=h
 exact ⟨es,clock,hb⟩

theorem KeptMap.lt {P:Int → Nat} {w:World} {mb:Nat} {S:List Int} (h:KeptMap P w mb S):mb < w.heap.size:=by
 obtain ⟨es,clock,hb⟩:=h.block
 exact (Array.getElem?_eq_some_iff.1 hb).1

theorem KeptMap.keeps {P:Int → Nat} {w w':World} {mb:Nat} {S:List Int} (h:KeptMap P w mb S) (hk:Keeps w w'):KeptMap P w' mb S:=by
 have hl:=h.lt
 obtain ⟨D,⟨es,clock,hb,rest⟩,h1,h2,h3⟩:=h
 refine ⟨D,⟨es,clock,(hk.block mb hl).trans hb,rest⟩,h1,h2,fun x hx=>?_⟩
 obtain ⟨v,q1,q2⟩:=h3 x hx
 exact ⟨v,q1,q2.keeps hk⟩

theorem zero_row (w:World):(zeroValue 26).run Tryz.prog w=.ok (.slice none 0 0) w:=by kernel_rfl

theorem key_u32 {x:Int} (h0:0 ≤ x) (h1:x ≤ 4294967295):keyOf Tryz.prog 23 (.int .u32 x)=some (.int .u32 x):=by
 have hwf:(Lit.int .u32 x).wf=true:=by simp [Lit.wf,show IntKind.u32.min=0 from rfl,show IntKind.u32.max=4294967295 from rfl];omega
 exact Maps.keyOf_int_mk Tryz.underlying23 hwf

theorem KeptMap.met {P:Int → Nat} {w:World} {mb:Nat} {S:List Int} (h:KeptMap P w mb S) {x:Int} (h0:0 ≤ x) (h1:x ≤ 4294967295) (hx:x ∈ S) :
  ∃ v,NatV 0 w (P x) v ∧ ∀ W,Keeps w W → (Instr.lookup 131 (.map (some mb)) (.int .u32 x) true).run Tryz.prog W=.ok (.tuple #[v,.bool true]) W:=by
 obtain ⟨D,hown,ho⟩:=h
 obtain ⟨v,q1,q2⟩:=ho.vals x hx
 refine ⟨v,q2,fun W hW=>?_⟩
 have hown':W.ownsMap Tryz.prog 23 heldElem mb S.length D:=by
  obtain ⟨es,clock,hb,rest⟩:=hown
  exact ⟨es,clock,(hW.block mb (Array.getElem?_eq_some_iff.1 hb).1).trans hb,rest⟩
 obtain ⟨u,ps,hrun,hu⟩:=hown'.look_ok (Maps.int_keyed Tryz.underlying23) Tryz.underlying131 (zero_row W) (show heldElem (.slice none 0 0)=some (.held (.slice none 0 0),[]) from rfl) (key_u32 h0 h1)
 rw [q1] at hu
 have e:u=v:=by
  unfold heldElem at hu
  cases hu
  rfl
 rw [hrun,(ho.keys x).2 hx,e]

theorem KeptMap.new {P:Int → Nat} {w:World} {mb:Nat} {S:List Int} (h:KeptMap P w mb S) {x:Int} (h0:0 ≤ x) (h1:x ≤ 4294967295) (hx:x ∉ S) :
  ∀ W,Keeps w W → (Instr.lookup 131 (.map (some mb)) (.int .u32 x) true).run Tryz.prog W=.ok (.tuple #[.slice none 0 0,.bool false]) W:=by
 obtain ⟨D,hown,ho⟩:=h
 intro W hW
 have hown':W.ownsMap Tryz.prog 23 heldElem mb S.length D:=by
  obtain ⟨es,clock,hb,rest⟩:=hown
  exact ⟨es,clock,(hW.block mb (Array.getElem?_eq_some_iff.1 hb).1).trans hb,rest⟩
 have hh:Maps.has D (.int .u32 x)=false:=by
  cases hb:Maps.has D (.int .u32 x) with
  | false=>rfl
  | true=>exact absurd ((ho.keys x).1 hb) hx
 obtain ⟨u,ps,hrun,hu⟩:=hown'.look_ok (Maps.int_keyed Tryz.underlying23) Tryz.underlying131 (zero_row W) (show heldElem (.slice none 0 0)=some (.held (.slice none 0 0),[]) from rfl) (key_u32 h0 h1)
 rw [Maps.atKey_of_not_has hh] at hu
 have e:u=.slice none 0 0:=by
  unfold heldElem at hu
  cases hu
  rfl
 rw [hrun,hh,e]

theorem KeptMap.put {P:Int → Nat} {w:World} {mb:Nat} {S:List Int} (h:KeptMap P w mb S) (hS:S.length ≤ 1000000) {x:Int} (h0:0 ≤ x) (h1:x ≤ 4294967295) {v:Value} (hv:NatV 0 w (P x) v) :
  ∃ w',(Instr.mapUpdate 131 (.map (some mb)) (.int .u32 x) v).run Tryz.prog w=.ok () w' ∧ KeptMap P w' mb (S ++ [x]) ∧ Upd (fun k=>k=mb) w w':=by
 have hm:=h.block
 obtain ⟨D,hown,ho⟩:=h
 obtain ⟨w',hrun,hown',hg⟩:=hown.update (Maps.int_keyed Tryz.underlying23) Tryz.underlying131 (by unfold maxLen;omega) (key_u32 h0 h1) (show heldElem v=some (.held v,[]) from rfl)
 have hu:=Upd.of_grown hg
 refine ⟨w',hrun,⟨_,by rw [List.length_append];exact hown',ho.isMap.put _ _,fun y=>?_,fun y hy=>?_⟩,hu⟩
 ·by_cases hs:y=x
  ·subst hs
   rw [Maps.has_put_same ho.isMap (show WideAt.IsKeyLit (.int .u32 y) from True.intro)]
   simp
  ·rw [Maps.has_put_other (fun e=>hs (by cases e;rfl)),ho.keys y]
   simp [hs]
 ·by_cases hs:y=x
  ·subst hs
   exact ⟨v,fun z=>Maps.atKey_put_same ho.isMap (show WideAt.IsKeyLit (.int .u32 y) from True.intro) _ _,hv.map hm hu⟩
  ·have hyS:y ∈ S:=by
    rcases List.mem_append.1 hy with hy | hy
    ·exact hy
    ·exact absurd (List.mem_singleton.1 hy) hs
   obtain ⟨u,q1,q2⟩:=ho.vals y hyS
   exact ⟨u,fun z=>by rw [Maps.atKey_put_other (fun e=>hs (by cases e;rfl))];exact q1 z,q2.map hm hu⟩

end Go.Proofs.YtpgcbmbnognieaaGreat
