/-
  Built: a store and the document's, behind records that are found.
-/
import Derived.Test.YtfpjogpjocedaaaGreatPVBase
import Derived.Lib.SliceRun
namespace Go.Proofs.YtfpjogpjocedaaaGreat
set_option linter.unusedSimpArgs false
set_option linter.unusedVariables false
set_option maxHeartbeats 600000
open Go.RowKit

theorem Keeps.new {F:Nat → Prop} {w W W1:World} (h:Keeps w W) (hu:Upd F W W1) (hf:∀ k,F k → w.heap.size ≤ k):Keeps w W1:=by
 have hs:=h.size
 refine ⟨hu.os.trans h.os,hu.tape.trans h.tape,hu.output.trans h.output,Nat.le_trans hs hu.size,fun k hk=>?_⟩
 rw [hu.block k (by omega) (fun hh=>by have:=hf k hh;omega),h.block k hk]

theorem findSt_n (M:St) (r:Rec):(M.findSt r).n=M.n:=by
 unfold St.findSt
 split
 ·rfl
 ·split
  ·rfl
  ·split
   ·rfl
   ·rfl

theorem findSt_room (M:St) (r:Rec):(M.findSt r).room=M.room:=by
 unfold St.findSt
 split
 ·rfl
 ·split
  ·rfl
  ·split
   ·rfl
   ·rfl

theorem findSt_len (M:St) (r:Rec):M.len ≤ (M.findSt r).len ∧ (M.findSt r).len ≤ M.len + 1:=by
 unfold St.findSt
 split
 ·omega
 ·split
  ·omega
  ·split
   ·omega
   ·have:=putLen (cs:=M.cs) (gone:=M.gone) (r:=r)
    unfold St.len
    simp only []
    omega

def putB (n:Nat):List Int:=if n < 128 then [(n:Int)] else ((n % 128 + 128:Nat):Int) :: putB (n / 128)
termination_by n
decreasing_by omega

theorem putB_low {n:Nat} (h:n < 128):putB n=[(n:Int)]:=by rw [putB,if_pos h]

theorem putB_more {n:Nat} (h:¬ n < 128):putB n=((n % 128 + 128:Nat):Int) :: putB (n / 128):=by rw [putB,if_neg h]

theorem putB_len:∀ (k n:Nat),n < 128 ^ (k + 1) → (putB n).length ≤ k + 1:=by
 intro k
 induction k with
 | zero=>intro n h;rw [putB_low (by omega)];exact Nat.le_refl _
 | succ k ih=>
  intro n h
  by_cases hn:n < 128
  ·rw [putB_low hn];show 1 ≤ _;omega
  ·rw [putB_more hn,List.length_cons]
   have:=ih (n / 128) (by rw [Nat.pow_succ] at h;exact Nat.div_lt_of_lt_mul (by rw [Nat.mul_comm];exact h))
   omega

theorem putB_len10 {n:Nat} (h:n < 2 ^ 64):(putB n).length ≤ 10:=putB_len 9 n (Nat.lt_of_lt_of_le h (by decide))

theorem putB_pos (n:Nat):1 ≤ (putB n).length:=by
 by_cases hn:n < 128
 ·rw [putB_low hn];exact Nat.le_refl _
 ·rw [putB_more hn,List.length_cons];omega

theorem putB_range:∀ (N n:Nat),n < N → ∀ x ∈ putB n,0 ≤ x ∧ x ≤ 255:=by
 intro N
 induction N with
 | zero=>intro n h;omega
 | succ N ih=>
  intro n h x hx
  by_cases hn:n < 128
  ·rw [putB_low hn,List.mem_singleton] at hx
   omega
  ·rw [putB_more hn,List.mem_cons] at hx
   rcases hx with rfl | hx
   ·omega
   ·exact ih (n / 128) (by omega) x hx

def byteVs (bs:List Int):List Value:=bs.map (Value.int .u8)

theorem byteVs_append (a b:List Int):byteVs (a ++ b)=byteVs a ++ byteVs b:=List.map_append

theorem byteVs_len (a:List Int):(byteVs a).length=a.length:=List.length_map _

theorem byteVs_one (a:List Int):∀ u ∈ byteVs a,u.oneCell'=true:=fun u hu=>by
 obtain ⟨x,_,rfl⟩:=List.mem_map.1 hu
 rfl

theorem wrap_byte (m:Nat):IntKind.u8.wrap (m:Int)=((m % 256:Nat):Int):=by
 have h:((m % 256:Nat):Int)=(m:Int) % 256:=by omega
 rw [h]
 unfold IntKind.wrap
 simp [IntKind.signed,IntKind.bits]

theorem or_byte (m:Nat):bits BinOp.or IntKind.u8 ((m % 256:Nat):Int) 128=((m % 128 + 128:Nat):Int):=by
 have key:∀ k:Fin 256,bits BinOp.or IntKind.u8 ((k.val:Nat):Int) 128=((k.val % 128 + 128:Nat):Int):=by decide +kernel
 have:=key ⟨m % 256,Nat.mod_lt _ (by decide)⟩
 rw [this]
 simp only
 have:m % 256 % 128=m % 128:=Nat.mod_mod_of_dvd _ (by decide)
 rw [this]

theorem Keeps.frz {w w':World} (h:Keeps w w') {a:Addr} (hl:a.block < w.heap.size) (hc:w.frozen? a=false):w'.frozen? a=false:=(Below.frozen h hl).trans hc

theorem eql_same (x y:Edge) (h:x=y) (W:World):(binOp .eql 37 (.agg #[.int .u8 x.tag,.int .u32 x.to]) (.agg #[.int .u8 y.tag,.int .u32 y.to])).run Tryz.prog W=.ok (.bool true) W:=by rw [run_eql_edge];simp [h]

theorem eql_other (x y:Edge) (h:x ≠ y) (W:World):(binOp .eql 37 (.agg #[.int .u8 x.tag,.int .u32 x.to]) (.agg #[.int .u8 y.tag,.int .u32 y.to])).run Tryz.prog W=.ok (.bool false) W:=by rw [run_eql_edge];simp [h]

theorem wrap_pow {x:Int} (h:x < 62):wrap64 (2 ^ x.toNat)=2 ^ x.toNat:=by
 have h2:2 ^ x.toNat ≤ 2 ^ 61:=Nat.pow_le_pow_right (by decide) (by omega)
 have h1:(2:Int) ^ x.toNat=((2 ^ x.toNat:Nat):Int):=by push_cast;rfl
 have h0:(0:Int) < 2 ^ x.toNat:=Int.pow_pos (by decide)
 unfold wrap64
 omega

def permB (ps:List Int):Bool:=decide (ps.length ≤ 16) && ps.all (fun x=>decide (0 ≤ x ∧ x < (ps.length:Int))) && decide ps.Nodup

theorem permB_iff {ps:List Int}:permB ps=true ↔ (ps.length ≤ 16 ∧ (∀ x ∈ ps,0 ≤ x ∧ x < (ps.length:Int)) ∧ ps.Nodup):=by
 unfold permB
 simp [List.all_eq_true,and_assoc]

theorem take_snoc {α:Type} {l:List α} {i:Nat} {x:α} (h:l[i]?=some x):l.take (i + 1)=l.take i ++ [x]:=by
 obtain ⟨hi,rfl⟩:=List.getElem?_eq_some_iff.1 h
 rw [List.take_succ_eq_append_getElem hi]

set_option maxRecDepth 100000 in
theorem permRight_calls (a:Option Addr) (cap:Nat) (ps:List Int) (w:World) (h:IntsAt w a ps) (hl:ps.length ≤ 1048576) :
  Calls Tryz.prog 81 #[.slice a ps.length cap] w fun e w'=>e=.returned (.bool (permB ps)) ∧ w=w':=by
 obtain ⟨N,hN⟩:∃ N,N=ps.length:=⟨_,rfl⟩
 rw [← hN] at hl ⊢
 have H:=Lib.hid h
 have HN:=Lib.hid hN
 clear h hN
 by_cases h16:16 < N
 ·have hf:permB ps=false:=by
   cases hb:permB ps with
   | false=>rfl
   | true=>have:=(permB_iff.1 hb).1;have:=HN.out;omega
  rw [hf]
  clear hf
  go_enter Tryz.func81,Tryz.ntmps81
  go_wp2
  go_ret
  exact ⟨rfl,rfl⟩
 ·go_enter Tryz.func81,Tryz.ntmps81
  go_wp2
  go_loopg [3,5,11] N (fun gk s3 s5 s11 wr=>∃ (m d:Nat),s3=.int .i64 (m:Int) ∧ s11=.int .i64 (d:Int) ∧ d + gk=N ∧ MaskOf m (ps.take d) ∧ (∀ x ∈ ps.take d,0 ≤ x ∧ x < (N:Int)) ∧ (ps.take d).Nodup ∧ w=wr)
  case atStart=>exact ⟨0,0,rfl,rfl,by omega,by simpa using MaskOf.nil,by simp,by simp,rfl⟩
  case round=>
   obtain ⟨m,d,rfl,rfl,hd,hm,hr,hnd,rfl⟩:=hrel
   by_cases hlt:d < N
   ·obtain ⟨x,hx⟩:∃ b,ps[d]?=some b:=⟨_,List.getElem?_eq_getElem (by rw [← HN.out];exact hlt)⟩
    obtain ⟨b,off,rfl,hc⟩:=H.out d x hx
    have hmem:x ∈ ps:=List.mem_of_getElem? hx
    have HX:=Lib.hid hx
    clear hx
    by_cases hx0:x < 0
    ·have hf:permB ps=false:=by
      cases hb:permB ps with
      | false=>rfl
      | true=>have:=((permB_iff.1 hb).2.1 x hmem).1;omega
     have HFF:=Lib.hid hf
     clear hf hmem hm hr hnd
     go_wp2_with fail
     go_ret
     exact ⟨by rw [HFF.out];rfl,rfl⟩
    ·by_cases hx1:(N:Int) ≤ x
     ·have hf:permB ps=false:=by
       cases hb:permB ps with
       | false=>rfl
       | true=>have:=((permB_iff.1 hb).2.1 x hmem).2;have:=HN.out;omega
      have HFF:=Lib.hid hf
      clear hf hmem hm hr hnd
      go_wp2_with fail
      go_ret
      exact ⟨by rw [HFF.out];rfl,rfl⟩
     ·have hbit:=hm.bit (x:=x) (by omega)
      by_cases hin:x ∈ ps.take d
      ·have hf:permB ps=false:=by
        cases hb:permB ps with
        | false=>rfl
        | true=>
         have:=(permB_iff.1 hb).2.2
         rw [← List.take_append_drop d ps,List.nodup_append] at this
         refine absurd rfl (this.2.2 x hin x ?_)
         rw [List.drop_eq_getElem_cons (by rw [← HN.out];exact hlt)]
         have:=HX.out
         rw [List.getElem?_eq_getElem (by rw [← HN.out];exact hlt)] at this
         rw [Option.some.inj this]
         simp
       have HFF:=Lib.hid hf
       rw [decide_eq_true hin] at hbit
       clear hf hmem hm hr hnd hin
       have hx2:x ≤ 63:=by omega
       go_wp2_with fail
       go_ret
       exact ⟨by rw [HFF.out];rfl,rfl⟩
      ·rw [decide_eq_false hin] at hbit
       have hm2:=hm.add (x:=x) (by omega) (by omega)
       have hor:=or_i64 m (2 ^ x.toNat) (by have:=hm.1;omega) (Nat.lt_of_lt_of_le (Nat.pow_lt_pow_right (n:=16) (by decide) (by omega)) (by decide))
       have htk:=take_snoc HX.out
       rw [← htk] at hm2
       have hr2:∀ y ∈ ps.take (d + 1),0 ≤ y ∧ y < (N:Int):=fun y hy=>by
        rw [htk] at hy
        rcases List.mem_append.1 hy with hy | hy
        ·exact hr y hy
        ·rw [List.mem_singleton] at hy;subst hy;omega
       have hnd2:(ps.take (d + 1)).Nodup:=by
        rw [htk,List.nodup_append]
        exact ⟨hnd,by simp,fun y hy z hz e=>by rw [List.mem_singleton] at hz;subst e;subst hz;exact hin hy⟩
       have HM2:=Lib.hid hm2
       have HR2:=Lib.hid hr2
       have HND2:=Lib.hid hnd2
       push_cast at hor
       have hwp:=wrap_pow (x:=x) (by omega)
       clear hm hr hnd hm2 hr2 hnd2 hmem hin htk
       have hx2:x ≤ 63:=by omega
       go_wp2_with fail
       go_roundg (gk - 1)
       case rel=>exact ⟨m ||| 2 ^ x.toNat,d + 1,rfl,by simp,by omega,HM2.out,HR2.out,HND2.out,rfl⟩
       case measure=>omega
   ·have hd2:d=N:=by omega
    have ht:permB ps=true:=by
     have e1:ps.take d=ps:=List.take_of_length_le (by rw [← HN.out];omega)
     rw [e1] at hr hnd
     exact permB_iff.2 ⟨by have:=HN.out;omega,fun x hx=>by have:=hr x hx;have:=HN.out;omega,hnd⟩
    have HFF:=Lib.hid ht
    clear hm hr hnd ht
    go_wp2_with fail
    go_ret
    exact ⟨by rw [HFF.out];rfl,rfl⟩

def RowI (w:World) (g:Nat) (ps:List Int):Prop:=∃ cur:Array Value,w.heap[g]?=some (.cells cur 3 (0,0)) ∧ ∀ (i:Nat) (x:Int),ps[i]?=some x → cur[i]?=some (Value.int .i64 x)

theorem RowI.cell {w:World} {g:Nat} {ps:List Int} (h:RowI w g ps) {i:Nat} {x:Int} (hx:ps[i]?=some x):w.cell? ⟨g,i,none⟩=some (.int .i64 x):=by
 obtain ⟨cur,h1,h2⟩:=h
 rw [cell_of_row w g i _ _ _ h1]
 simp only [h2 i x hx]

theorem RowI.frozen {w:World} {g:Nat} {ps:List Int} (h:RowI w g ps) (i:Nat):w.frozen? ⟨g,i,none⟩=false:=by
 obtain ⟨cur,h1,h2⟩:=h
 exact frozen_of_row w g i _ _ h1

theorem RowI.lt {w:World} {g:Nat} {ps:List Int} (h:RowI w g ps):g < w.heap.size:=by
 obtain ⟨cur,h1,h2⟩:=h
 exact lt_of_heap h1

theorem RowI.keep {G:Nat → Prop} {w w':World} {g:Nat} {ps:List Int} (h:RowI w g ps) (hu:Upd G w w') (hg:¬ G g):RowI w' g ps:=by
 have hl:=h.lt
 obtain ⟨cur,h1,h2⟩:=h
 exact ⟨cur,(hu.block g hl hg).trans h1,h2⟩

theorem RowI.keeps {w w':World} {g:Nat} {ps:List Int} (h:RowI w g ps) (hk:Keeps w w'):RowI w' g ps:=h.keep (hk.upd (fun _=>False)) (fun h=>h)

theorem RowI.ints {w:World} {g:Nat} {ps:List Int} (h:RowI w g ps):IntsAt w (some ⟨g,0,none⟩) ps:=fun i x hx=>⟨g,0,rfl,by rw [Nat.zero_add];exact h.cell hx⟩

theorem RowI.set {w:World} {g:Nat} {ps:List Int} (h:RowI w g ps) (i:Nat) (y:Int) (hi:i < ps.length):RowI (w.setCell ⟨g,i,none⟩ (.int .i64 y)) g (ps.set i y):=by
 obtain ⟨cur,h1,h2⟩:=h
 refine ⟨_,Go.heap_setCell_same w g i _ _ (.int .i64 y) h1,fun j x hx=>?_⟩
 rw [Array.getElem?_setIfInBounds]
 by_cases hj:i=j
 ·subst hj
  have hc:=h2 i ps[i] (by simp [hi])
  have hs:i < cur.size:=(Array.getElem?_eq_some_iff.1 hc).1
  rw [if_pos rfl,if_pos hs]
  simp [hi] at hx
  rw [hx]
 ·rw [if_neg hj]
  rw [List.getElem?_set_ne hj] at hx
  exact h2 j x hx

theorem rowI_owns {w:World} {lo:Nat} {g:Nat} {n cap:Nat} {ps:List Int} (hown:w.ownsRow lo 3 1 (.slice (some ⟨g,0,none⟩) n cap) n (ps.map (Value.int .i64))):RowI w g ps ∧ lo ≤ g:=by
 obtain ⟨cur0,hcur0⟩:=owns_type hown (k:=g) rfl
 rcases hown.2 with ⟨h0,_⟩ | ⟨g',cap',cur,hv,hb,hg,_,_,hs,ht⟩
 ·cases h0
 ·cases hv
  refine ⟨⟨cur,hg,fun i x hx=>?_⟩,hb⟩
  have h1:(ps.map (Value.int .i64))[i]?=some (.int .i64 x):=by rw [List.getElem?_map,hx];rfl
  rw [← ht,List.getElem?_take] at h1
  split at h1
  ·rw [Array.getElem?_toList] at h1
   exact h1
  ·cases h1

def RowV (lo:Nat) (w:World) (a:Option Addr) (ps:List Int):Prop:=ps ≠ [] → ∃ g,a=some ⟨g,0,none⟩ ∧ lo ≤ g ∧ RowI w g ps

theorem RowV.ints {lo:Nat} {w:World} {a:Option Addr} {ps:List Int} (h:RowV lo w a ps):IntsAt w a ps:=fun i x hx=>by
 obtain ⟨g,ha,_,hr⟩:=h (fun e=>by rw [e] at hx;simp at hx)
 rw [ha]
 exact hr.ints i x hx

theorem info_int:(Tryz.prog.info? 3).map (fun i=>(i.zero,i.size,i.bytes))=some (some (.int .i64 0),1,8):=by kernel_rfl

theorem owns_none (w:World) (t:TypeId):(w.alloc (.cells #[] t)).ownsRow w.heap.size t 1 (.slice (some ⟨w.heap.size,0,none⟩) 0 0) 0 []:=
 ⟨rfl,.inr ⟨w.heap.size,0,#[],rfl,Nat.le_refl _,heap_alloc_new w _,Nat.le_refl _,by unfold maxLen;omega,rfl,rfl⟩⟩

set_option maxRecDepth 100000 in
theorem clone_calls (a:Option Addr) (cap:Nat) (ps:List Int) (w:World) (h:IntsAt w a ps) (hl:ps.length ≤ 1048576) :
  Calls Tryz.prog 35 #[.slice a ps.length cap] w fun e w'=>∃ a' cap',e=.returned (.slice a' ps.length cap') ∧ RowV w.heap.size w' a' ps ∧ Keeps w w':=by
 cases a with
 | none=>
  have hp:ps=[]:=by
   cases ps with
   | nil=>rfl
   | cons x l=>obtain ⟨b,off,ha,_⟩:=h 0 x rfl;cases ha
  subst hp
  clear h hl
  rw [List.length_nil]
  have hnil:=fun (W:World)=>Lib.run_eql_slice_nil (P:=Tryz.prog) W 23 3 none 0 cap 0 0 Tryz.underlying23
  go_enter Tryz.func35,Tryz.ntmps35
  go_wp2
  go_ret
  exact ⟨none,0,rfl,fun hn=>absurd rfl hn,Keeps.refl _⟩
 | some ad=>
  obtain ⟨i0,hi,hz0,hz1,hz2⟩:=info_parts info_int
  have hcells:∀ j u,(ps.map (Value.int .i64))[j]?=some u → w.cell? (ad.add j)=some u:=fun j u hj=>by
   rw [List.getElem?_map,Option.map_eq_some_iff] at hj
   obtain ⟨x,hx,rfl⟩:=hj
   obtain ⟨b,off,ha,hc⟩:=h j x hx
   cases ha
   have hadd:(⟨b,off,none⟩:Addr).add j=⟨b,off + j,none⟩:=by
    unfold Addr.add
    split
    ·rename_i h0
     rw [h0]
     rfl
    ·rfl
   rw [hadd]
   exact hc
  obtain ⟨N,hN⟩:∃ N,N=ps.length:=⟨_,rfl⟩
  rw [← hN] at hl ⊢
  have HC:=Lib.hid hcells
  have HN:=Lib.hid hN
  have h63:0 + N ≤ maxLen:=by unfold maxLen;omega
  clear h hcells hN
  have hnil:=fun (W:World)=>Lib.run_eql_slice_nil (P:=Tryz.prog) W 23 3 (some ad) N cap 0 0 Tryz.underlying23
  go_enter Tryz.func35,Tryz.ntmps35
  go_wp2_with (first
   | (at_builtin;refine wpList_append_fresh rfl _ _ 23 rfl w.heap.size 3 i0 (.int .i64 0) 1 8 Tryz.underlying23 hi hz0 hz1 hz2 rfl (by decide) (.slice (some ⟨w.heap.size,0,none⟩) 0 0) 0 [] rfl (owns_none w 3) ad N cap (ps.map (Value.int .i64)) rfl (by rw [List.length_map,← HN.out,Nat.mul_one]) (fun j u hj=>((Keeps.refl w).alloc _).cell (HC.out j u hj)) (fun u hu=>by rw [List.mem_map] at hu;obtain ⟨x,_,rfl⟩:=hu;rfl) h63 (by omega) (by simp) ?_;intro v' w3 hown3 hg3 hnew)
   | fail)
  obtain ⟨a',cap',rfl,ha'⟩:=owns_slice hown3
  go_wp2_with fail
  go_ret
  refine ⟨a',cap',by simp,fun hn=>?_,?_⟩
  ·obtain ⟨g,rfl⟩:=ha' (by rw [Nat.zero_add,HN.out];intro e;exact hn (List.length_eq_zero_iff.1 e))
   rw [List.nil_append] at hown3
   obtain ⟨r1,r2⟩:=rowI_owns hown3
   exact ⟨g,rfl,r2,r1⟩
  ·have hu:Upd (fun k=>k=w.heap.size) (w.alloc (.cells #[] 3)) w3:=⟨hg3.os,hg3.tape,hg3.output,hg3.size,fun k hk hn=>hg3.block k hk (fun e=>by simp [Value.ownBlock] at e;exact hn e)⟩
   exact ((((Keeps.refl w).alloc (.cells #[] 3)).upd _).trans' hu).keeps (fun k hk e=>by omega)

theorem info_byte:(Tryz.prog.info? 5).map (fun i=>(i.zero,i.size,i.bytes))=some (some (.int .u8 0),1,1):=by kernel_rfl

set_option maxRecDepth 100000 in
theorem cloneB_nil (w:World):Calls Tryz.prog 164 #[.slice none 0 0] w fun e w'=>e=.returned (.slice none 0 0) ∧ w=w':=by
 have hnil:=fun (W:World)=>Lib.run_eql_slice_nil (P:=Tryz.prog) W 24 5 none 0 0 0 0 Tryz.underlying24
 go_enter Tryz.func164,Tryz.ntmps164
 go_wp2
 go_ret
 exact ⟨rfl,rfl⟩

theorem row_from {w:World} {base:Nat} {e:TypeId} {size:Nat} {v:Value} {n:Nat} {xs:List Value} (h:w.ownsRow base e size v n xs) {k:Nat} (hk:v.ownBlock=some k):base ≤ k:=by
 rcases h.2 with ⟨e0,_⟩ | ⟨g',cap',cur,e0,hbg,_⟩
 ·rw [e0] at hk;simp [Value.ownBlock] at hk
 ·rw [e0] at hk;simp [Value.ownBlock] at hk;omega

theorem wpList_ok {P:Program} {ops:Array Oper} {rest:List Oper} {o:Oper} {a:Act} {w w':World} {Q:Exit → Act → World → Prop} {v:Value} (hg:o.guard=none) (hr:(execOp a.eval o).run P w=.ok (.value v) w') (h:wpList P ops Q rest (a.put o.dst v) w'):wpList P ops Q (o :: rest) a w:=
 wpList_plain hg fun K hK=>by
  unfold Oper.wp
  rw [hr]
  exact hK _ _ h

theorem put_step {pre:List Int} {m n:Nat} (h:pre ++ putB m=putB n) (hm:¬ m < 128):(pre ++ [((m % 128 + 128:Nat):Int)]) ++ putB (m / 128)=putB n:=by
 rw [← h,putB_more hm,List.append_assoc]
 rfl

theorem put_end {pre:List Int} {m n:Nat} (h:pre ++ putB m=putB n) (hm:m < 128):pre ++ [(m:Int)]=putB n:=by
 rw [← h,putB_low hm]

set_option maxRecDepth 100000 in
set_option maxHeartbeats 2000000 in
theorem wirePut_calls (n:Nat) (hn:n < 2 ^ 64) (w:World) :
  Calls Tryz.prog 137 #[.slice none 0 0,.int .u64 (n:Int)] w fun e w'=>∃ v,e=.returned v ∧ w'.ownsRow w.heap.size 5 1 v (putB n).length (byteVs (putB n)) ∧ Keeps w w':=by
 have HL:=Lib.hid (putB_len10 hn)
 obtain ⟨i5,hi5,hz50,hz51,hz52⟩:=info_parts info_byte
 have HN:=Lib.hid hn
 clear hn
 go_enter Tryz.func137,Tryz.ntmps137
 go_wp2_with (first | (go_at_call 164;refine (cloneB_nil _).mono ?_;rintro e w1 ⟨rfl,rfl⟩) | fail)
 go_loopg [0,1] n (fun gk s0 s1 wr=>∃ (pre:List Int) (v:Value),s0=v ∧ s1=.int .u64 (gk:Int) ∧ gk < 2 ^ 64 ∧ pre ++ putB gk=putB n ∧ wr.ownsRow w.heap.size 5 1 v pre.length (byteVs pre) ∧ Keeps w wr)
 case atStart=>exact ⟨[],_,rfl,rfl,HN.out,rfl,World.ownsRow_nil _ _ _ _,by (exact kp)⟩
 case round=>
  obtain ⟨pre,v,rfl,rfl,hm,hpre,h5,hk⟩:=hrel
  obtain ⟨a5,cap5,rfl,-⟩:=owns_slice h5
  have hpl:pre.length + (putB gk).length=(putB n).length:=by rw [← hpre,List.length_append]
  have hpos:=putB_pos gk
  have hl:=HL.out
  have H5:=Lib.hid h5
  have HPRE:=Lib.hid hpre
  have q1:pre.length + 1 ≤ maxLen:=by unfold maxLen;omega
  have q2:(pre.length + 1) * 1 ≤ 140737488355328:=by omega
  have hwb:=wrap_byte gk
  have szk:=hk.size
  clear h5 hpre hl hpos hpl
  have szA:∀ o,w.heap.size ≤ (wr.alloc o).heap.size:=fun o=>by rw [World.size_alloc];omega
  by_cases hlt:gk < 128
  ·have HEND:=Lib.hid (put_end HPRE.out hlt)
   have hwr:IntKind.u8.wrap (gk:Int)=(gk:Int):=by rw [hwb,Nat.mod_eq_of_lt (by omega)]
   go_upto_region 5 with fail
   refine wp_region_lit ?_
   refine wpList_ok rfl rfl ?_
   refine wpList_ok rfl rfl ?_
   refine wpList_ok (v:=.int .u8 (gk:Int)) (w':=wr) rfl (by simp [execOp,go_sem,hwr]) ?_
   refine wpList_ok (v:=.slice (some ⟨wr.heap.size,0,none⟩) 1 1) (w':=wr.alloc (.cells #[.int .u8 (gk:Int)] 5)) rfl (by simp [execOp,go_sem]) ?_
   refine wpList_append_fresh rfl _ _ 24 rfl w.heap.size 5 i5 (.int .u8 0) 1 1 Tryz.underlying24 hi5 hz50 hz51 hz52 rfl (by decide) (.slice a5 pre.length cap5) pre.length (byteVs pre) rfl (Keeps.owns (show Keeps wr _ by (exact kp)) H5.out) ⟨wr.heap.size,0,none⟩ 1 1 [.int .u8 (gk:Int)] rfl rfl (cell_new _ _ _ _ (by simp)) (by intro u hu;rw [List.mem_singleton] at hu;subst hu;rfl) (by exact q1) (by exact q2) (by simp;omega) ?_
   intro v3 w8 hown3 hg3 hfresh
   go_wp2_with fail
   go_ret
   refine ⟨v3,rfl,?_,hk.new (F:=fun k=>(Value.slice a5 pre.length cap5).ownBlock=some k) (Upd.grown (by repeat (first | exact Upd.refl _ _ | refine Upd.alloc ?_ _ | refine Upd.drew ?_)) hg3 (fun k hk=>.inl hk)) (fun k hk2=>row_from H5.out hk2)⟩
   rw [← HEND.out,byteVs_append,List.length_append]
   exact hown3
  ·have HSTEP:=Lib.hid (put_step HPRE.out hlt)
   have hob:=or_byte gk
   have hdiv:(gk:Int) / 128=((gk / 128:Nat):Int):=by omega
   have h64:gk / 128 < 2 ^ 64:=by omega
   have HDIV:=Lib.hid hdiv
   clear hdiv
   go_upto_region 3 with fail
   refine wp_region_lit ?_
   refine wpList_ok rfl rfl ?_
   refine wpList_ok rfl rfl ?_
   refine wpList_ok (v:=.int .u8 ((gk % 256:Nat):Int)) (w':=wr) rfl (by simp only [execOp,go_sem,hwb];simp [go_sem,hwb]) ?_
   refine wpList_ok (v:=.int .u8 ((gk % 128 + 128:Nat):Int)) (w':=wr) rfl (by rw [← hob];simp [execOp,go_sem]) ?_
   refine wpList_ok (v:=.slice (some ⟨wr.heap.size,0,none⟩) 1 1) (w':=wr.alloc (.cells #[.int .u8 ((gk % 128 + 128:Nat):Int)] 5)) rfl (by simp [execOp,go_sem]) ?_
   refine wpList_append_fresh rfl _ _ 24 rfl w.heap.size 5 i5 (.int .u8 0) 1 1 Tryz.underlying24 hi5 hz50 hz51 hz52 rfl (by decide) (.slice a5 pre.length cap5) pre.length (byteVs pre) rfl (Keeps.owns (show Keeps wr _ by (exact kp)) H5.out) ⟨wr.heap.size,0,none⟩ 1 1 [.int .u8 ((gk % 128 + 128:Nat):Int)] rfl rfl (cell_new _ _ _ _ (by simp)) (by intro u hu;rw [List.mem_singleton] at hu;subst hu;rfl) (by exact q1) (by exact q2) (by simp;omega) ?_
   intro v3 w8 hown3 hg3 hfresh
   go_wp2_with fail
   go_roundg (gk / 128)
   case rel=>
    exact ⟨pre ++ [((gk % 128 + 128:Nat):Int)],v3,rfl,by rw [← HDIV.out],h64,HSTEP.out,by rw [byteVs_append,List.length_append];exact hown3,hk.new (F:=fun k=>(Value.slice a5 pre.length cap5).ownBlock=some k) (Upd.grown (by repeat (first | exact Upd.refl _ _ | refine Upd.alloc ?_ _ | refine Upd.drew ?_)) hg3 (fun k hk=>.inl hk)) (fun k hk2=>row_from H5.out hk2)⟩
   case measure=>omega

end Go.Proofs.YtfpjogpjocedaaaGreat
