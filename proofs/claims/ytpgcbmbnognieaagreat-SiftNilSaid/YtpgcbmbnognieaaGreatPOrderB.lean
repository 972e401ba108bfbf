/-
  Built: a store and the document's, behind records that are found.
-/
import Derived.Test.YtpgcbmbnognieaaGreatPRLaw
import Derived.Test.YtpgcbmbnognieaaGreatPSFindA
import Derived.Lib.SliceRun
namespace Go.Proofs.YtpgcbmbnognieaaGreat
set_option maxRecDepth 1000000
set_option maxHeartbeats 8000000
set_option linter.unusedSimpArgs false
set_option linter.unusedVariables false
open Go.RowKit

theorem Keeps.new {F:Nat→Prop}{w W W1:World}(h:Keeps w W)(hu:Upd F W W1)(hf:∀ k,F k→w.heap.size≤k):Keeps w W1:=by
 have hs:=h.size
 refine⟨hu.os.trans h.os,hu.tape.trans h.tape,hu.output.trans h.output,Nat.le_trans hs hu.size,fun k hk=>?_⟩
 rw [hu.block k (by omega) (fun hh=>by have:=hf k hh;omega),h.block k hk]

theorem findSt_n (M:St)(r:Rec):(M.findSt r).n=M.n:=by
 unfold St.findSt
 split
 ·rfl
 ·split
  ·rfl
  ·split
   ·rfl
   ·rfl

theorem findSt_room (M:St)(r:Rec):(M.findSt r).room=M.room:=by
 unfold St.findSt
 split
 ·rfl
 ·split
  ·rfl
  ·split
   ·rfl
   ·rfl

theorem findSt_len (M:St)(r:Rec):M.len≤(M.findSt r).len∧(M.findSt r).len≤M.len+1:=by
 unfold St.findSt
 split
 ·omega
 ·split
  ·omega
  ·split
   ·omega
   ·have:=putLen (cs:=M.cs) (gone:=M.gone) (r:=r)
    unfold St.len
    simp only []
    omega

def IntsAt (w:World)(a:Option Addr)(ps:List Int):Prop:=∀ i x,ps[i]?=some x→∃ b off,a=some ⟨b,off,none⟩∧w.cell? ⟨b,off+i,none⟩=some (.int .i64 x)

theorem IntsAt.keeps {w w':World}{a:Option Addr}{ps:List Int}(h:IntsAt w a ps)(hk:Keeps w w'):IntsAt w' a ps:=fun i x hx=>by
 obtain⟨b,off,ha,hc⟩:=h i x hx
 exact⟨b,off,ha,hk.cell hc⟩

theorem wrap_nat64 (n:Nat)(h:n<2 ^ 63):IntKind.i64.wrap (n:Int)=(n:Int):=by
 have e:(n:Int)%2 ^ 64=n:=Int.emod_eq_of_lt (by omega) (by omega)
 simp only [IntKind.wrap,IntKind.bits,IntKind.signed,e]
 rw [if_neg]
 simp
 omega

theorem and_one_i64 (E:Int)(h0:0≤E)(h1:E≤9223372036854775807):bits BinOp.and IntKind.i64 E 1=E%2:=by
 obtain⟨a,rfl⟩:∃ a:Nat,E=(a:Int):=⟨E.toNat,by omega⟩
 have hx2:a &&& 1=a%2:=Nat.and_one_is_mod a
 have h1:(BitVec.ofInt 64 (a:Int)).toNat=a:=by
  rw [BitVec.ofInt_natCast,BitVec.toNat_ofNat];exact Nat.mod_eq_of_lt (by omega)
 have h2:(BitVec.ofInt 64 ((1:Nat):Int)).toNat=1:=by
  rw [BitVec.ofInt_natCast,BitVec.toNat_ofNat]
 show IntKind.i64.wrap ((BitVec.ofInt 64 (a:Int) &&& BitVec.ofInt 64 ((1:Nat):Int)).toNat:Int)=_
 rw [BitVec.toNat_and,h1,h2,hx2,wrap_nat64 _ (by omega)]
 omega

theorem or_i64 (a b:Nat)(ha:a<2 ^ 62)(hb:b<2 ^ 62):bits BinOp.or IntKind.i64 (a:Int) (b:Int)=((a ||| b:Nat):Int):=by
 have h1:∀ c:Nat,c<2 ^ 62→(BitVec.ofInt 64 (c:Int)).toNat=c:=fun c hc=>by
  rw [BitVec.ofInt_natCast,BitVec.toNat_ofNat];exact Nat.mod_eq_of_lt (by omega)
 have hx:a ||| b<2 ^ 62:=Nat.or_lt_two_pow ha hb
 show IntKind.i64.wrap ((BitVec.ofInt 64 (a:Int) ||| BitVec.ofInt 64 (b:Int)).toNat:Int)=_
 rw [BitVec.toNat_or,h1 a ha,h1 b hb,wrap_nat64 _ (by omega)]

def MaskOf (m:Nat)(l:List Int):Prop:=m<65536∧∀ j:Nat,m.testBit j=true↔(j:Int)∈l

theorem MaskOf.nil:MaskOf 0 []:=⟨by decide,fun j=>by simp⟩

theorem MaskOf.add {m:Nat}{l:List Int}{x:Int}(h:MaskOf m l)(h0:0≤x)(h1:x<16):MaskOf (m ||| 2 ^ x.toNat) (l++[x]):=by
 have hp:2 ^ x.toNat<2 ^ 16:=Nat.pow_lt_pow_right (by decide) (by omega)
 refine⟨Nat.or_lt_two_pow (n:=16) h.1 hp,fun j=>?_⟩
 rw [Nat.testBit_or,Bool.or_eq_true,h.2 j,List.mem_append,List.mem_singleton,Nat.testBit_two_pow]
 simp only [decide_eq_true_eq]
 constructor
 ·rintro(a|a)
  ·exact .inl a
  ·exact .inr (by omega)
 ·rintro(a|a)
  ·exact .inl a
  ·exact .inr (by omega)

theorem MaskOf.bit {m:Nat}{l:List Int}{x:Int}(h:MaskOf m l)(h0:0≤x):(bits BinOp.and IntKind.i64 ((m:Int) / 2 ^ x.toNat) 1==1)=decide (x∈l):=by
 have hm:=h.1
 have hp:(0:Int)<2 ^ x.toNat:=Int.pow_pos (by decide)
 have a0:0≤(m:Int) / 2 ^ x.toNat:=Int.ediv_nonneg (by omega) (by omega)
 have a1:(m:Int) / 2 ^ x.toNat≤m:=Int.ediv_le_self _ (by omega)
 rw [and_one_i64 _ a0 (by omega)]
 have hb:=h.2 x.toNat
 rw [show((x.toNat:Nat):Int)=x by omega] at hb
 have e:(m:Int) / 2 ^ x.toNat=((m / 2 ^ x.toNat:Nat):Int):=by push_cast;rfl
 rw [e]
 have ht:m.testBit x.toNat=decide (m / 2 ^ x.toNat%2=1):=Nat.testBit_eq_decide_div_mod_eq
 by_cases hin:x∈l
 ·have:=hb.2 hin
  rw [ht,decide_eq_true_eq] at this
  rw [decide_eq_true hin,beq_iff_eq]
  omega
 ·have:¬m / 2 ^ x.toNat%2=1:=fun hh=>hin (hb.1 (by rw [ht];exact decide_eq_true hh))
  rw [decide_eq_false hin,beq_eq_false_iff_ne]
  omega

theorem wrap_pow {x:Int}(h:x<62):wrap64 (2 ^ x.toNat)=2 ^ x.toNat:=by
 have h2:2 ^ x.toNat≤2 ^ 61:=Nat.pow_le_pow_right (by decide) (by omega)
 have h1:(2:Int) ^ x.toNat=((2 ^ x.toNat:Nat):Int):=by push_cast;rfl
 have h0:(0:Int)<2 ^ x.toNat:=Int.pow_pos (by decide)
 unfold wrap64
 omega

def permB (ps:List Int):Bool:=decide (ps.length≤16)&&ps.all (fun x=>decide (0≤x∧x<(ps.length:Int)))&&decide ps.Nodup

theorem permB_iff {ps:List Int}:permB ps=true↔(ps.length≤16∧(∀ x∈ps,0≤x∧x<(ps.length:Int))∧ps.Nodup):=by
 unfold permB
 simp [List.all_eq_true,and_assoc]

theorem take_snoc {α:Type}{l:List α}{i:Nat}{x:α}(h:l[i]?=some x):l.take (i+1)=l.take i++[x]:=by
 obtain⟨hi,rfl⟩:=List.getElem?_eq_some_iff.1 h
 rw [List.take_succ_eq_append_getElem hi]

theorem permRight_calls (a:Option Addr)(cap:Nat)(ps:List Int)(w:World)(h:IntsAt w a ps)(hl:ps.length≤1048576) :
  Calls Tryz.prog 176 #[.slice a ps.length cap] w fun e w'=>e=.returned (.bool (permB ps))∧w=w':=by
 obtain⟨N,hN⟩:∃ N,N=ps.length:=⟨_,rfl⟩
 rw [← hN] at hl ⊢
 have H:=Lib.hid h
 have HN:=Lib.hid hN
 clear h hN
 by_cases h16:16<N
 ·have hf:permB ps=false:=by
   cases hb:permB ps with
   | false=>rfl
   | true=>have:=(permB_iff.1 hb).1;have:=HN.out;omega
  rw [hf]
  clear hf
  go_enter Tryz.func176,Tryz.ntmps176
  go_wp2
  go_ret
  exact⟨rfl,rfl⟩
 ·go_enter Tryz.func176,Tryz.ntmps176
  go_wp2
  go_loopg [3,5,11] N (fun gk s3 s5 s11 wr=>∃ (m d:Nat),s3=.int .i64 (m:Int)∧s11=.int .i64 (d:Int)∧d+gk=N∧MaskOf m (ps.take d)∧(∀ x∈ps.take d,0≤x∧x<(N:Int))∧(ps.take d).Nodup∧w=wr)
  case atStart=>exact⟨0,0,rfl,rfl,by omega,by simpa using MaskOf.nil,by simp,by simp,rfl⟩
  case round=>
   obtain⟨m,d,rfl,rfl,hd,hm,hr,hnd,rfl⟩:=hrel
   by_cases hlt:d<N
   ·obtain⟨x,hx⟩:∃ b,ps[d]?=some b:=⟨_,List.getElem?_eq_getElem (by rw [← HN.out];exact hlt)⟩
    obtain⟨b,off,rfl,hc⟩:=H.out d x hx
    have hmem:x∈ps:=List.mem_of_getElem? hx
    have HX:=Lib.hid hx
    clear hx
    by_cases hx0:x<0
    ·have hf:permB ps=false:=by
      cases hb:permB ps with
      | false=>rfl
      | true=>have:=((permB_iff.1 hb).2.1 x hmem).1;omega
     have HFF:=Lib.hid hf
     clear hf hmem hm hr hnd
     go_wp2_with fail
     go_ret
     exact⟨by rw [HFF.out];rfl,rfl⟩
    ·by_cases hx1:(N:Int)≤x
     ·have hf:permB ps=false:=by
       cases hb:permB ps with
       | false=>rfl
       | true=>have:=((permB_iff.1 hb).2.1 x hmem).2;have:=HN.out;omega
      have HFF:=Lib.hid hf
      clear hf hmem hm hr hnd
      go_wp2_with fail
      go_ret
      exact⟨by rw [HFF.out];rfl,rfl⟩
     ·have hbit:=hm.bit (x:=x) (by omega)
      by_cases hin:x∈ps.take d
      ·have hf:permB ps=false:=by
        cases hb:permB ps with
        | false=>rfl
        | true=>
         have:=(permB_iff.1 hb).2.2
         rw [← List.take_append_drop d ps,List.nodup_append] at this
         refine absurd rfl (this.2.2 x hin x ?_)
         rw [List.drop_eq_getElem_cons (by rw [← HN.out];exact hlt)]
         have:=HX.out
         rw [List.getElem?_eq_getElem (by rw [← HN.out];exact hlt)] at this
         rw [Option.some.inj this]
         simp
       have HFF:=Lib.hid hf
       rw [decide_eq_true hin] at hbit
       clear hf hmem hm hr hnd hin
       have hx2:x≤63:=by omega
       go_wp2_with fail
       go_ret
       exact⟨by rw [HFF.out];rfl,rfl⟩
      ·rw [decide_eq_false hin] at hbit
       have hm2:=hm.add (x:=x) (by omega) (by omega)
       have hor:=or_i64 m (2 ^ x.toNat) (by have:=hm.1;omega) (Nat.lt_of_lt_of_le (Nat.pow_lt_pow_right (n:=16) (by decide) (by omega)) (by decide))
       have htk:=take_snoc HX.out
       rw [← htk] at hm2
       have hr2:∀ y∈ps.take (d+1),0≤y∧y<(N:Int):=fun y hy=>by
        rw [htk] at hy
        rcases List.mem_append.1 hy with hy|hy
        ·exact hr y hy
        ·rw [List.mem_singleton] at hy;subst hy;omega
       have hnd2:(ps.take (d+1)).Nodup:=by
        rw [htk,List.nodup_append]
        exact⟨hnd,by simp,fun y hy z hz e=>by rw [List.mem_singleton] at hz;subst e;subst hz;exact hin hy⟩
       have HM2:=Lib.hid hm2
       have HR2:=Lib.hid hr2
       have HND2:=Lib.hid hnd2
       push_cast at hor
       have hwp:=wrap_pow (x:=x) (by omega)
       clear hm hr hnd hm2 hr2 hnd2 hmem hin htk
       have hx2:x≤63:=by omega
       go_wp2_with fail
       go_roundg (gk-1)
       case rel=>exact⟨m ||| 2 ^ x.toNat,d+1,rfl,by simp,by omega,HM2.out,HR2.out,HND2.out,rfl⟩
       case measure=>omega
   ·have hd2:d=N:=by omega
    have ht:permB ps=true:=by
     have e1:ps.take d=ps:=List.take_of_length_le (by rw [← HN.out];omega)
     rw [e1] at hr hnd
     exact permB_iff.2 ⟨by have:=HN.out;omega,fun x hx=>by have:=hr x hx;have:=HN.out;omega,hnd⟩
    have HFF:=Lib.hid ht
    clear hm hr hnd ht
    go_wp2_with fail
    go_ret
    exact⟨by rw [HFF.out];rfl,rfl⟩

def RowI (w:World)(g:Nat)(ps:List Int):Prop:=∃ cur:Array Value,w.heap[g]?=some (.cells cur 3 (0,0))∧∀ (i:Nat) (x:Int),ps[i]?=some x→cur[i]?=some (Value.int .i64 x)

theorem RowI.cell {w:World}{g:Nat}{ps:List Int}(h:RowI w g ps){i:Nat}{x:Int}(hx:ps[i]?=some x):w.cell? ⟨g,i,none⟩=some (.int .i64 x):=by
 obtain⟨cur,h1,h2⟩:=h
 rw [cell_of_row w g i _ _ _ h1]
 simp only [h2 i x hx]

theorem RowI.frozen {w:World}{g:Nat}{ps:List Int}(h:RowI w g ps)(i:Nat):w.frozen? ⟨g,i,none⟩=false:=by
 obtain⟨cur,h1,h2⟩:=h
 exact frozen_of_row w g i _ _ h1

theorem RowI.lt {w:World}{g:Nat}{ps:List Int}(h:RowI w g ps):g<w.heap.size:=by
 obtain⟨cur,h1,h2⟩:=h
 exact lt_of_heap h1

theorem RowI.keep {G:Nat→Prop}{w w':World}{g:Nat}{ps:List Int}(h:RowI w g ps)(hu:Upd G w w')(hg:¬G g):RowI w' g ps:=by
 have hl:=h.lt
 obtain⟨cur,h1,h2⟩:=h
 exact⟨cur,(hu.block g hl hg).trans h1,h2⟩

theorem RowI.keeps {w w':World}{g:Nat}{ps:List Int}(h:RowI w g ps)(hk:Keeps w w'):RowI w' g ps:=h.keep (hk.upd (fun _=>False)) (fun h=>h)

theorem RowI.ints {w:World}{g:Nat}{ps:List Int}(h:RowI w g ps):IntsAt w (some ⟨g,0,none⟩) ps:=fun i x hx=>⟨g,0,rfl,by rw [Nat.zero_add];exact h.cell hx⟩

theorem RowI.set {w:World}{g:Nat}{ps:List Int}(h:RowI w g ps)(i:Nat)(y:Int)(hi:i<ps.length):RowI (w.setCell ⟨g,i,none⟩ (.int .i64 y)) g (ps.set i y):=by
 obtain⟨cur,h1,h2⟩:=h
 refine⟨_,Go.heap_setCell_same w g i _ _ (.int .i64 y) h1,fun j x hx=>?_⟩
 rw [Array.getElem?_setIfInBounds]
 by_cases hj:i=j
 ·subst hj
  have hc:=h2 i ps[i] (by simp [hi])
  have hs:i<cur.size:=(Array.getElem?_eq_some_iff.1 hc).1
  rw [if_pos rfl,if_pos hs]
  simp [hi] at hx
  rw [hx]
 ·rw [if_neg hj]
  rw [List.getElem?_set_ne hj] at hx
  exact h2 j x hx

theorem rowI_owns {w:World}{lo:Nat}{g:Nat}{n cap:Nat}{ps:List Int}(hown:w.ownsRow lo 3 1 (.slice (some ⟨g,0,none⟩) n cap) n (ps.map (Value.int .i64))):RowI w g ps∧lo≤g:=by
 obtain⟨cur0,hcur0⟩:=owns_type hown (k:=g) rfl
 rcases hown.2 with⟨h0,_⟩|⟨g',cap',cur,hv,hb,hg,_,_,hs,ht⟩
 ·cases h0
 ·cases hv
  refine⟨⟨cur,hg,fun i x hx=>?_⟩,hb⟩
  have h1:(ps.map (Value.int .i64))[i]?=some (.int .i64 x):=by rw [List.getElem?_map,hx];rfl
  rw [← ht,List.getElem?_take] at h1
  split at h1
  ·rw [Array.getElem?_toList] at h1
   exact h1
  ·cases h1

def RowV (lo:Nat)(w:World)(a:Option Addr)(ps:List Int):Prop:=ps≠[]→∃ g,a=some ⟨g,0,none⟩∧lo≤g∧RowI w g ps

theorem RowV.ints {lo:Nat}{w:World}{a:Option Addr}{ps:List Int}(h:RowV lo w a ps):IntsAt w a ps:=fun i x hx=>by
 obtain⟨g,ha,_,hr⟩:=h (fun e=>by rw [e] at hx;simp at hx)
 rw [ha]
 exact hr.ints i x hx

theorem info_int:(Tryz.prog.info? 3).map (fun i=>(i.zero,i.size,i.bytes))=some (some (.int .i64 0),1,8):=by kernel_rfl

theorem owns_none (w:World)(t:TypeId):(w.alloc (.cells #[] t)).ownsRow w.heap.size t 1 (.slice (some ⟨w.heap.size,0,none⟩) 0 0) 0 []:=
 ⟨rfl,.inr ⟨w.heap.size,0,#[],rfl,Nat.le_refl _,heap_alloc_new w _,Nat.le_refl _,by unfold maxLen;omega,rfl,rfl⟩⟩

theorem clone_calls (a:Option Addr)(cap:Nat)(ps:List Int)(w:World)(h:IntsAt w a ps)(hl:ps.length≤1048576) :
  Calls Tryz.prog 98 #[.slice a ps.length cap] w fun e w'=>∃ a' cap',e=.returned (.slice a' ps.length cap')∧RowV w.heap.size w' a' ps∧Keeps w w':=by
 cases a with
 | none=>
  have hp:ps=[]:=by
   cases ps with
   | nil=>rfl
   | cons x l=>obtain⟨b,off,ha,_⟩:=h 0 x rfl;cases ha
  subst hp
  clear h hl
  rw [List.length_nil]
  have hnil:=fun(W:World)=>Lib.run_eql_slice_nil (P:=Tryz.prog) W 38 3 none 0 cap 0 0 Tryz.underlying38
  go_enter Tryz.func98,Tryz.ntmps98
  go_wp2
  go_ret
  exact⟨none,0,rfl,fun hn=>absurd rfl hn,Keeps.refl _⟩
 | some ad=>
  obtain⟨i0,hi,hz0,hz1,hz2⟩:=info_parts info_int
  have hcells:∀ j u,(ps.map (Value.int .i64))[j]?=some u→w.cell? (ad.add j)=some u:=fun j u hj=>by
   rw [List.getElem?_map,Option.map_eq_some_iff] at hj
   obtain⟨x,hx,rfl⟩:=hj
   obtain⟨b,off,ha,hc⟩:=h j x hx
   cases ha
   have hadd:(⟨b,off,none⟩:Addr).add j=⟨b,off+j,none⟩:=by
    unfold Addr.add
    split
    ·rename_i h0
     rw [h0]
     rfl
    ·rfl
   rw [hadd]
   exact hc
  obtain⟨N,hN⟩:∃ N,N=ps.length:=⟨_,rfl⟩
  rw [← hN] at hl ⊢
  have HC:=Lib.hid hcells
  have HN:=Lib.hid hN
  have h63:0+N≤maxLen:=by unfold maxLen;omega
  clear h hcells hN
  have hnil:=fun(W:World)=>Lib.run_eql_slice_nil (P:=Tryz.prog) W 38 3 (some ad) N cap 0 0 Tryz.underlying38
  go_enter Tryz.func98,Tryz.ntmps98
  go_wp2_with (first
   | (at_builtin;refine wpList_append_fresh rfl _ _ 38 rfl w.heap.size 3 i0 (.int .i64 0) 1 8 Tryz.underlying38 hi hz0 hz1 hz2 rfl (by decide) (.slice (some ⟨w.heap.size,0,none⟩) 0 0) 0 [] rfl (owns_none w 3) ad N cap (ps.map (Value.int .i64)) rfl (by rw [List.length_map,← HN.out,Nat.mul_one]) (fun j u hj=>((Keeps.refl w).alloc _).cell (HC.out j u hj)) (fun u hu=>by rw [List.mem_map] at hu;obtain⟨x,_,rfl⟩:=hu;rfl) h63 (by omega) (by simp) ?_;intro v' w3 hown3 hg3 hnew)
   | fail)
  obtain⟨a',cap',rfl,ha'⟩:=owns_slice hown3
  go_wp2_with fail
  go_ret
  refine⟨a',cap',by simp,fun hn=>?_,?_⟩
  ·obtain⟨g,rfl⟩:=ha' (by rw [Nat.zero_add,HN.out];intro e;exact hn (List.length_eq_zero_iff.1 e))
   rw [List.nil_append] at hown3
   obtain⟨r1,r2⟩:=rowI_owns hown3
   exact⟨g,rfl,r2,r1⟩
  ·have hu:Upd (fun k=>k=w.heap.size) (w.alloc (.cells #[] 3)) w3:=⟨hg3.os,hg3.tape,hg3.output,hg3.size,fun k hk hn=>hg3.block k hk (fun e=>by simp [Value.ownBlock] at e;exact hn e)⟩
   exact((((Keeps.refl w).alloc (.cells #[] 3)).upd _).trans' hu).keeps (fun k hk e=>by omega)

def InvOf (ps qs:List Int):Prop:=qs.length=ps.length∧∀ (i:Nat) (x:Int),ps[i]?=some x→qs[x.toNat]?=some (i:Int)

theorem rowI_made {w:World}{blk n:Nat}(h:w.ownsRow blk 3 1 (.slice (some ⟨blk,0,none⟩) n n) n (madeCells (Value.int .i64 0).cells (n*1)).toList):RowI w blk (List.replicate n 0):=by
 have e:(madeCells (Value.int .i64 0).cells (n*1)).toList=(List.replicate n (0:Int)).map (Value.int .i64):=by
  rw [List.map_replicate,Nat.mul_one]
  simp [madeCells,Value.cells,Nat.mod_one]
  rw [List.map_const',List.length_range]
 rw [e] at h
 exact(rowI_owns h).1

theorem inverse_calls (a:Option Addr)(cap:Nat)(ps:List Int)(w:World)(h:IntsAt w a ps)(hl:ps.length≤1048576) :
  Calls Tryz.prog 114 #[.slice a ps.length cap] w fun e w'=>Keeps w w' ∧
   if permB ps=true then ∃ qs,e=.returned (.tuple #[.slice (some ⟨w.heap.size,0,none⟩) ps.length ps.length,.bool true])∧RowI w' w.heap.size qs∧InvOf ps qs
   else e=.returned (.tuple #[.slice none 0 0,.bool false]):=by
 have hR:=fun W (hW:Keeps w W)=>permRight_calls a cap ps W (h.keeps hW) hl
 obtain⟨N,hN⟩:∃ N,N=ps.length:=⟨_,rfl⟩
 cases hb:permB ps with
 | false=>
  simp only [Bool.false_eq_true,if_false]
  rw [hb,← hN] at hR
  rw [← hN]
  have HR:=Lib.hid hR
  clear hR h hl hb hN
  go_enter Tryz.func114,Tryz.ntmps114
  go_wp2_with (first|(go_at_call 176;refine(HR.out _ (by(exact kp))).mono ?_;rintro e w1 ⟨rfl,rfl⟩)|fail)
  go_ret2
  exact⟨Keeps.refl _,rfl⟩
 | true=>
  simp only [if_true]
  obtain⟨h16,hrng,hnd⟩:=permB_iff.1 hb
  rw [hb,← hN] at hR
  rw [← hN] at hl h16 hrng ⊢
  have HR:=Lib.hid hR
  have HN:=Lib.hid hN
  have H:=Lib.hid h
  have HRNG:=Lib.hid hrng
  have HND:=Lib.hid hnd
  obtain⟨j0,hj,jz0,jz1,jz2⟩:=info_parts info_int
  clear hR h hb hN hrng hnd
  go_enter Tryz.func114,Tryz.ntmps114
  go_wp2_with (first
   | (go_at_call 176;refine(HR.out _ (by(exact kp))).mono ?_;rintro e w1 ⟨rfl,rfl⟩)
   | (at_make;refine wpList_make_full _ rfl _ _ 38 rfl w.heap.size 3 j0 (.int .i64 0) 1 Tryz.underlying38 hj jz0 jz1 .i64 .i64 (N:Int) (N:Int) N rfl rfl rfl rfl (by rw [jz2];omega) (by unfold maxLen;omega) (by simp) ?_;intro w1 hown1 hg1)
   | fail)
  have HB1:=Lib.hid (rowI_made hown1)
  have hkk:Keeps w w1:=⟨hg1.os,hg1.tape,hg1.output,hg1.size,fun i hi=>hg1.block i hi (by simp)⟩
  have HKK:=Lib.hid hkk
  have l1:=HB1.out.lt
  clear hown1 hg1 hkk
  go_loopg [5,6,15] N (fun gk s5 s6 s15 wr=>∃ (d:Nat) (qs:List Int),d+gk=N∧s15=.int .i64 (d:Int)∧qs.length=N∧RowI wr w.heap.size qs∧(∀ i x,i<d→ps[i]?=some x→qs[x.toNat]?=some (i:Int))∧Upd (fun j=>j=w.heap.size) w1 wr)
  case atStart=>exact⟨0,_,by omega,rfl,by simp,HB1.out,fun i x hi=>by omega,Upd.refl _ _⟩
  case round=>
   obtain⟨d,qs,hd,rfl,hql,hB,hag,hk0⟩:=hrel
   have HB:=Lib.hid hB
   have HQL:=Lib.hid hql
   have HAG:=Lib.hid hag
   have HK0:=Lib.hid hk0
   have hw:Keeps w wr:=HKK.out.new hk0 (fun k hk=>by omega)
   clear hB hql hag hk0
   by_cases hlt:d<N
   ·obtain⟨x,hx⟩:∃ b,ps[d]?=some b:=⟨_,List.getElem?_eq_getElem (by rw [← HN.out];exact hlt)⟩
    obtain⟨b,off,rfl,hc0⟩:=H.out d x hx
    have hc:=hw.cell hc0
    obtain⟨hx0,hx1⟩:=HRNG.out x (List.mem_of_getElem? hx)
    have HX:=Lib.hid hx
    obtain⟨X,rfl⟩:∃ X:Nat,x=(X:Int):=⟨x.toNat,by omega⟩
    obtain⟨y,hy⟩:∃ b,qs[X]?=some b:=⟨_,List.getElem?_eq_getElem (by rw [HQL.out];omega)⟩
    have hcy:=HB.out.cell hy
    have hfy:=HB.out.frozen X
    clear hc0 hx hy
    go_wp2_with fail
    go_roundg (gk-1)
    case rel=>
     refine⟨d+1,qs.set X (d:Int),by omega,by simp,by rw [List.length_set,HQL.out],?_,fun i z hi hz=>?_,?_⟩
     ·exact HB.out.set X (d:Int) (by rw [HQL.out];omega)
     ·by_cases hid:i=d
      ·subst hid
       rw [HX.out] at hz
       cases hz
       rw [Int.toNat_natCast,List.getElem?_set_self (by rw [HQL.out];omega)]
      ·have hne:z.toNat≠X:=fun e=>by
        have hz0:=(HRNG.out z (List.mem_of_getElem? hz)).1
        have hzX:z=(X:Int):=by omega
        rw [hzX] at hz
        obtain⟨l1,e1⟩:=List.getElem?_eq_some_iff.1 hz
        obtain⟨l2,e2⟩:=List.getElem?_eq_some_iff.1 HX.out
        exact hid (List.getElem_inj HND.out |>.1 (e1.trans e2.symm))
       rw [List.getElem?_set_ne (fun e=>hne e.symm)]
       exact HAG.out i z (by omega) hz
     ·exact HK0.out.setCell (.inl rfl) _
    case measure=>omega
   ·have hd2:d=N:=by omega
    have hq:InvOf ps qs:=⟨by rw [HQL.out,HN.out],fun i x hx=>HAG.out i x (by have:=(List.getElem?_eq_some_iff.1 hx).1;have:=HN.out;omega) hx⟩
    have HQ:=Lib.hid hq
    clear hd2 hq
    go_wp2_with fail
    go_ret2
    exact⟨hw,qs,rfl,HB.out,HQ.out⟩

structure OrdRep (F:Nat→Prop)(w:World)(ob:Nat)(ps:List Int):Prop where
 lies:∃ va vc lg lc qs,w.heap[ob]?=some (.cells #[.slice va ps.length vc,.slice (some ⟨lg,0,none⟩) ps.length lc] 175 (0,0))∧InvOf ps qs ∧
  (ps≠[]→∃ vg,va=some ⟨vg,0,none⟩∧RowI w vg ps∧F vg∧vg≠lg)∧RowI w lg qs∧F lg
 own:F ob
 lt:∀ k,F k→k<w.heap.size
 perm:permB ps=true

theorem OrdRep.keep {F G:Nat→Prop}{w W:World}{ob:Nat}{ps:List Int}(h:OrdRep F w ob ps)(hu:Upd G w W)(hd:∀ k,F k→¬G k):OrdRep F W ob ps:=by
 obtain⟨⟨va,vc,lg,lc,qs,h1,h2,h3,h4,h5⟩,a1,a2,a3⟩:=h
 refine⟨⟨va,vc,lg,lc,qs,(hu.block ob (lt_of_heap h1) (hd _ a1)).trans h1,h2,fun hn=>?_,h4.keep hu (hd _ h5),h5⟩,a1,fun k hk=>Nat.lt_of_lt_of_le (a2 k hk) hu.size,a3⟩
 obtain⟨vg,q1,q2,q3,q4⟩:=h3 hn
 exact⟨vg,q1,q2.keep hu (hd _ q3),q3,q4⟩

theorem OrdRep.keeps {F:Nat→Prop}{w W:World}{ob:Nat}{ps:List Int}(h:OrdRep F w ob ps)(hu:Keeps w W):OrdRep F W ob ps:=h.keep (hu.upd (fun _=>False)) (fun _ _ h=>h)

theorem orderOf_calls (a:Option Addr)(cap:Nat)(ps:List Int)(w:World)(h:IntsAt w a ps)(hl:ps.length≤1048576) :
  Calls Tryz.prog 55 #[.slice a ps.length cap] w fun e w'=>Keeps w w' ∧
   if permB ps=true then ∃ ob F,e=.returned (.tuple #[.pointer (some ⟨ob,0,none⟩),.int .u8 0])∧OrdRep F w' ob ps∧(∀ k,F k→w.heap.size≤k)
   else e=.returned (.tuple #[.pointer none,.int .u8 1]):=by
 have hI:=fun W (hW:Keeps w W)=>inverse_calls a cap ps W (h.keeps hW) hl
 have hC:=fun W (hW:Keeps w W)=>clone_calls a cap ps W (h.keeps hW) hl
 obtain⟨N,hN⟩:∃ N,N=ps.length:=⟨_,rfl⟩
 cases hb:permB ps with
 | false=>
  simp only [Bool.false_eq_true,if_false]
  simp only [hb,Bool.false_eq_true,if_false,← hN] at hI
  rw [← hN]
  have HI:=Lib.hid hI
  clear hI h hl hb hN hC
  go_enter Tryz.func55,Tryz.ntmps55
  go_wp2_with (first|(go_at_call 114;refine(HI.out _ (by(exact kp))).mono ?_;rintro e w1 ⟨hk,rfl⟩)|fail)
  go_ret2
  exact⟨hk,rfl⟩
 | true=>
  simp only [if_true]
  simp only [hb,if_true,← hN] at hI
  rw [← hN] at hC ⊢
  have HI:=Lib.hid hI
  have HC:=Lib.hid hC
  have HB:=Lib.hid hb
  have HN:=Lib.hid hN
  clear hI h hl hb hN hC
  go_enter Tryz.func55,Tryz.ntmps55
  go_wp2_with (first|(go_at_call 114;refine(HI.out _ (by(exact kp))).mono ?_;rintro e w1 ⟨hk1,qs,rfl,hr1,hq1⟩)|fail)
  have l1:=hr1.lt
  refine(HC.out _ hk1).mono ?_
  rintro e w2 ⟨va,vc,rfl,hr2,hk2⟩
  go_wp2_with fail
  go_ret2
  have hk3:Keeps w2 (w2.alloc (.cells #[.slice va N vc,.slice (some ⟨w.heap.size,0,none⟩) N N] 175)):=(Keeps.refl _).alloc _
  have l2:=hk2.size
  refine⟨(hk1.trans hk2).trans hk3,w2.heap.size,fun k=>w.heap.size≤k∧k≤w2.heap.size,rfl,⟨⟨va,vc,w.heap.size,N,qs,?_,hq1,fun hn=>?_,(hr1.keeps hk2).keeps hk3,by omega⟩,by omega,fun k hk=>by simp;omega,HB.out⟩,fun k hk=>hk.1⟩
  ·rw [← HN.out]
   exact heap_alloc_new w2 _
  ·obtain⟨vg,e1,e2,e3⟩:=hr2 hn
   have:=e3.lt
   exact⟨vg,e1,e3.keeps hk3,by omega,by omega⟩

theorem Keeps.frz {w w':World}(h:Keeps w w'){a:Addr}(hl:a.block<w.heap.size)(hc:w.frozen? a=false):w'.frozen? a=false:=(Below.frozen h hl).trans hc

theorem eql_same (x y:Edge)(h:x=y)(W:World):(binOp .eql 25 (.agg #[.int .u8 x.tag,.int .u32 x.to]) (.agg #[.int .u8 y.tag,.int .u32 y.to])).run Tryz.prog W=.ok (.bool true) W:=by rw [run_eql_edge];simp [h]

theorem eql_other (x y:Edge)(h:x≠y)(W:World):(binOp .eql 25 (.agg #[.int .u8 x.tag,.int .u32 x.to]) (.agg #[.int .u8 y.tag,.int .u32 y.to])).run Tryz.prog W=.ok (.bool false) W:=by rw [run_eql_edge];simp [h]

end Go.Proofs.YtpgcbmbnognieaaGreat
