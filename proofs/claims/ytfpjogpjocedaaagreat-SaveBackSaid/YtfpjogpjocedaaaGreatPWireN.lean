/-
  wire.Put behind no bytes: a number's bytes, in a row of the call's own.
-/
import Derived.Test.YtfpjogpjocedaaaGreatPWireG
import Derived.Laws.AppendOwnNone
import Derived.Laws.Bits64b
namespace Go.Proofs.YtfpjogpjocedaaaGreat
set_option linter.unusedSimpArgs false
set_option linter.unusedVariables false
set_option maxHeartbeats 600000
open Go.RowKit

theorem info_byte:(Tryz.prog.info? 5).map (fun i=>(i.zero,i.size,i.bytes))=some (some (.int .u8 0),1,1):=by kernel_rfl

set_option maxRecDepth 100000 in
theorem cloneB_nil (w:World):Calls Tryz.prog 164 #[.slice none 0 0] w fun e w'=>e=.returned (.slice none 0 0) ∧ w=w':=by
 have hnil:=fun (W:World)=>Lib.run_eql_slice_nil (P:=Tryz.prog) W 24 5 none 0 0 0 0 Tryz.underlying24
 go_enter Tryz.func164,Tryz.ntmps164
 go_wp2
 go_ret
 exact ⟨rfl,rfl⟩

theorem row_from {w:World} {base:Nat} {e:TypeId} {size:Nat} {v:Value} {n:Nat} {xs:List Value} (h:w.ownsRow base e size v n xs) {k:Nat} (hk:v.ownBlock=some k):base ≤ k:=by
 rcases h.2 with ⟨e0,_⟩ | ⟨g',cap',cur,e0,hbg,_⟩
 ·rw [e0] at hk;simp [Value.ownBlock] at hk
 ·rw [e0] at hk;simp [Value.ownBlock] at hk;omega

theorem wpList_ok {P:Program} {ops:Array Oper} {rest:List Oper} {o:Oper} {a:Act} {w w':World} {Q:Exit → Act → World → Prop} {v:Value} (hg:o.guard=none) (hr:(execOp a.eval o).run P w=.ok (.value v) w') (h:wpList P ops Q rest (a.put o.dst v) w'):wpList P ops Q (o :: rest) a w:=
 wpList_plain hg fun K hK=>by
  unfold Oper.wp
  rw [hr]
  exact hK _ _ h

theorem put_step {pre:List Int} {m n:Nat} (h:pre ++ putB m=putB n) (hm:¬ m < 128):(pre ++ [((m % 128 + 128:Nat):Int)]) ++ putB (m / 128)=putB n:=by
 rw [← h,putB_more hm,List.append_assoc]
 rfl

theorem put_end {pre:List Int} {m n:Nat} (h:pre ++ putB m=putB n) (hm:m < 128):pre ++ [(m:Int)]=putB n:=by
 rw [← h,putB_low hm]

set_option maxRecDepth 100000 in
set_option maxHeartbeats 2000000 in
theorem wirePut_calls (n:Nat) (hn:n < 2 ^ 64) (w:World) :
  Calls Tryz.prog 137 #[.slice none 0 0,.int .u64 (n:Int)] w fun e w'=>∃ v,e=.returned v ∧ w'.ownsRow w.heap.size 5 1 v (putB n).length (byteVs (putB n)) ∧ Keeps w w':=by
 have HL:=Lib.hid (putB_len10 hn)
 obtain ⟨i5,hi5,hz50,hz51,hz52⟩:=info_parts info_byte
 have HN:=Lib.hid hn
 clear hn
 go_enter Tryz.func137,Tryz.ntmps137
 go_wp2_with (first | (go_at_call 164;refine (cloneB_nil _).mono ?_;rintro e w1 ⟨rfl,rfl⟩) | fail)
 go_loopg [0,1] n (fun gk s0 s1 wr=>∃ (pre:List Int) (v:Value),s0=v ∧ s1=.int .u64 (gk:Int) ∧ gk < 2 ^ 64 ∧ pre ++ putB gk=putB n ∧ wr.ownsRow w.heap.size 5 1 v pre.length (byteVs pre) ∧ Keeps w wr)
 case atStart=>exact ⟨[],_,rfl,rfl,HN.out,rfl,World.ownsRow_nil _ _ _ _,by (exact kp)⟩
 case round=>
  obtain ⟨pre,v,rfl,rfl,hm,hpre,h5,hk⟩:=hrel
  obtain ⟨a5,cap5,rfl,-⟩:=owns_slice h5
  have hpl:pre.length + (putB gk).length=(putB n).length:=by rw [← hpre,List.length_append]
  have hpos:=putB_pos gk
  have hl:=HL.out
  have H5:=Lib.hid h5
  have HPRE:=Lib.hid hpre
  have q1:pre.length + 1 ≤ maxLen:=by unfold maxLen;omega
  have q2:(pre.length + 1) * 1 ≤ 140737488355328:=by omega
  have hwb:=wrap_byte gk
  have szk:=hk.size
  clear h5 hpre hl hpos hpl
  have szA:∀ o,w.heap.size ≤ (wr.alloc o).heap.size:=fun o=>by rw [World.size_alloc];omega
  by_cases hlt:gk < 128
  ·have HEND:=Lib.hid (put_end HPRE.out hlt)
   have hwr:IntKind.u8.wrap (gk:Int)=(gk:Int):=by rw [hwb,Nat.mod_eq_of_lt (by omega)]
   go_upto_region 5 with fail
   refine wp_region_lit ?_
   refine wpList_ok rfl rfl ?_
   refine wpList_ok rfl rfl ?_
   refine wpList_ok (v:=.int .u8 (gk:Int)) (w':=wr) rfl (by simp [execOp,go_sem,hwr]) ?_
   refine wpList_ok (v:=.slice (some ⟨wr.heap.size,0,none⟩) 1 1) (w':=wr.alloc (.cells #[.int .u8 (gk:Int)] 5)) rfl (by simp [execOp,go_sem]) ?_
   refine wpList_append_fresh rfl _ _ 24 rfl w.heap.size 5 i5 (.int .u8 0) 1 1 Tryz.underlying24 hi5 hz50 hz51 hz52 rfl (by decide) (.slice a5 pre.length cap5) pre.length (byteVs pre) rfl (Keeps.owns (show Keeps wr _ by (exact kp)) H5.out) ⟨wr.heap.size,0,none⟩ 1 1 [.int .u8 (gk:Int)] rfl rfl (cell_new _ _ _ _ (by simp)) (by intro u hu;rw [List.mem_singleton] at hu;subst hu;rfl) (by exact q1) (by exact q2) (by simp;omega) ?_
   intro v3 w8 hown3 hg3 hfresh
   go_wp2_with fail
   go_ret
   refine ⟨v3,rfl,?_,hk.new (F:=fun k=>(Value.slice a5 pre.length cap5).ownBlock=some k) (Upd.grown (by repeat (first | exact Upd.refl _ _ | refine Upd.alloc ?_ _ | refine Upd.drew ?_)) hg3 (fun k hk=>.inl hk)) (fun k hk2=>row_from H5.out hk2)⟩
   rw [← HEND.out,byteVs_append,List.length_append]
   exact hown3
  ·have HSTEP:=Lib.hid (put_step HPRE.out hlt)
   have hob:=or_byte gk
   have hdiv:(gk:Int) / 128=((gk / 128:Nat):Int):=by omega
   have h64:gk / 128 < 2 ^ 64:=by omega
   have HDIV:=Lib.hid hdiv
   clear hdiv
   go_upto_region 3 with fail
   refine wp_region_lit ?_
   refine wpList_ok rfl rfl ?_
   refine wpList_ok rfl rfl ?_
   refine wpList_ok (v:=.int .u8 ((gk % 256:Nat):Int)) (w':=wr) rfl (by simp only [execOp,go_sem,hwb];simp [go_sem,hwb]) ?_
   refine wpList_ok (v:=.int .u8 ((gk % 128 + 128:Nat):Int)) (w':=wr) rfl (by rw [← hob];simp [execOp,go_sem]) ?_
   refine wpList_ok (v:=.slice (some ⟨wr.heap.size,0,none⟩) 1 1) (w':=wr.alloc (.cells #[.int .u8 ((gk % 128 + 128:Nat):Int)] 5)) rfl (by simp [execOp,go_sem]) ?_
   refine wpList_append_fresh rfl _ _ 24 rfl w.heap.size 5 i5 (.int .u8 0) 1 1 Tryz.underlying24 hi5 hz50 hz51 hz52 rfl (by decide) (.slice a5 pre.length cap5) pre.length (byteVs pre) rfl (Keeps.owns (show Keeps wr _ by (exact kp)) H5.out) ⟨wr.heap.size,0,none⟩ 1 1 [.int .u8 ((gk % 128 + 128:Nat):Int)] rfl rfl (cell_new _ _ _ _ (by simp)) (by intro u hu;rw [List.mem_singleton] at hu;subst hu;rfl) (by exact q1) (by exact q2) (by simp;omega) ?_
   intro v3 w8 hown3 hg3 hfresh
   go_wp2_with fail
   go_roundg (gk / 128)
   case rel=>
    exact ⟨pre ++ [((gk % 128 + 128:Nat):Int)],v3,rfl,by rw [← HDIV.out],h64,HSTEP.out,by rw [byteVs_append,List.length_append];exact hown3,hk.new (F:=fun k=>(Value.slice a5 pre.length cap5).ownBlock=some k) (Upd.grown (by repeat (first | exact Upd.refl _ _ | refine Upd.alloc ?_ _ | refine Upd.drew ?_)) hg3 (fun k hk=>.inl hk)) (fun k hk2=>row_from H5.out hk2)⟩
   case measure=>omega

def BsRow (base:Nat) (w:World) (v:Value) (bs:List Int):Prop:=w.ownsRow base 5 1 v bs.length (byteVs bs)

def BsAt (w:World) (a:Option Addr) (bs:List Int):Prop:=∀ i x,bs[i]?=some x → ∃ b off,a=some ⟨b,off,none⟩ ∧ w.cell? ⟨b,off + i,none⟩=some (.int .u8 x)

theorem BsAt.keeps {w w':World} {a:Option Addr} {bs:List Int} (h:BsAt w a bs) (hk:Keeps w w'):BsAt w' a bs:=fun i x hx=>by
 obtain ⟨b,off,ha,hc⟩:=h i x hx
 exact ⟨b,off,ha,hk.cell hc⟩

theorem BsRow.keeps {base:Nat} {w w':World} {v:Value} {bs:List Int} (h:BsRow base w v bs) (hk:Keeps w w'):BsRow base w' v bs:=hk.owns h

theorem BsRow.slice {base:Nat} {w:World} {v:Value} {bs:List Int} (h:BsRow base w v bs):∃ a cap,v=.slice a bs.length cap ∧ BsAt w a bs:=by
 rcases h.2 with ⟨h0,hn⟩ | ⟨g,cap,cur,h0,hb,hg,hnc,hcm,hcs,htake⟩
 ·refine ⟨none,0,by rw [h0,hn],fun i x hx=>?_⟩
  have:=(List.getElem?_eq_some_iff.1 hx).1
  omega
 ·refine ⟨some ⟨g,0,none⟩,cap,h0,fun i x hx=>⟨g,0,rfl,?_⟩⟩
  have hi:=(List.getElem?_eq_some_iff.1 hx).1
  rw [h0] at h
  have h2:=World.ownsRow.cellAt h (j:=i) (by omega)
  rw [Nat.zero_add,h2]
  unfold byteVs
  rw [List.getElem?_map,hx]
  rfl

def IsBlk (w:World) (t:TypeId) (k:Nat):Prop:=∃ cs,w.heap[k]?=some (.cells cs t (0,0))

theorem BsRow.blk {base:Nat} {w:World} {v:Value} {bs:List Int} (h:BsRow base w v bs) {k:Nat} (hk:v.ownBlock=some k):IsBlk w 5 k ∧ base ≤ k:=by
 obtain ⟨cs,hc⟩:=owns_type h hk
 exact ⟨⟨cs,hc⟩,row_from h hk⟩

theorem BsRow.nil (base:Nat) (w:World):BsRow base w (.slice none 0 0) []:=World.ownsRow_nil _ _ _ _

theorem wpB_append_op {o:Oper} {a:Act} {w:World} {K:Act → World → Prop} {Q:Exit → Act → World → Prop} (s x:Operand)
  (ho:o.op=.call { callee:=.builtin .append,args:=#[s,x],argTypes:=#[24,24] })
  (base b2:Nat) (v xv:Value) (bs cs:List Int) (hs:a.eval s=v) (hx:a.eval x=xv) (hown:BsRow base w v bs) (hrow:BsRow b2 w xv cs) (hpos:0 < cs.length) (hl:bs.length + cs.length ≤ 140737488355328) (hbase:base ≤ w.heap.size)
  (h:∀ v' w',BsRow base w' v' (bs ++ cs) → w.grownBy w' v.ownBlock → K (a.put o.dst v') w'):o.wp Tryz.prog a w K Q:=by
 obtain ⟨i,hi,hz0,hz1,hz2⟩:=info_parts info_byte
 obtain ⟨g,cap,rfl⟩:=owns_shape hrow hpos
 refine wp_append_fresh s x 24 ho base 5 i (.int .u8 0) 1 1 Tryz.underlying24 hi hz0 hz1 hz2 rfl (by decide) v bs.length (byteVs bs) hs hown ⟨g,0,none⟩ cs.length cap (byteVs cs) hx (by rw [byteVs_len,Nat.mul_one]) (World.ownsRow.cells hrow (g:=g) rfl) (byteVs_one cs) (by unfold maxLen;omega) (by omega) hbase (fun v' w' h2 h3 _=>h v' w' ?_ h3)
 unfold BsRow
 rw [byteVs_append,List.length_append]
 exact h2

theorem BsRow.other {base:Nat} {w:World} {v:Value} {bs:List Int} (h:BsRow base w v bs) {k:Nat} {cs:Array Value} {t:TypeId} {q:Nat × Nat} (hk:w.heap[k]?=some (.cells cs t q)) (ht:t ≠ 5):v.ownBlock ≠ some k:=fun e=>by
 obtain ⟨⟨cs',hc⟩,_⟩:=h.blk e
 rw [hk] at hc
 cases hc
 exact ht rfl

open Go Go.RowKit

def numB (bs:List Int):Option (Nat × List Int):=match getG 10 bs with
 | none=>none
 | some (n,r)=>if n < 2 ^ 64 then some (n,r) else none

def NumOut (bs:List Int) (e:Ending):Prop:=
 (∃ n size:Nat,e=.returned (.tuple #[.int .u64 (n:Int),.int .i64 (size:Int),.int .u8 0]) ∧ numB bs=some (n,bs.drop size) ∧ 0 < size ∧ size ≤ bs.length) ∨
 (∃ er:Int,e=.returned (.tuple #[.int .u64 0,.int .i64 0,.int .u8 er]) ∧ (er=7 ∨ er=11) ∧ numB bs=none)

theorem or_high {acc x:Nat} {i:Nat} (h:acc < 128 ^ i):acc ||| x * 128 ^ i=acc + 128 ^ i * x:=by
 have e:(128:Nat) ^ i=2 ^ (7 * i):=by rw [show (128:Nat)=2 ^ 7 from rfl,← Nat.pow_mul]
 rw [e] at h ⊢
 rw [Nat.mul_comm x,Nat.or_comm,← Nat.two_pow_add_eq_or_of_lt h,Nat.add_comm]

theorem and_127 (c:Int) (h:0 ≤ c ∧ c ≤ 255):bits BinOp.and IntKind.u8 c 127=((c.toNat % 128:Nat):Int):=by
 have key:∀ k:Fin 256,bits BinOp.and IntKind.u8 ((k.val:Nat):Int) 127=((k.val % 128:Nat):Int):=by decide +kernel
 have:=key ⟨c.toNat,by omega⟩
 have e:((c.toNat:Nat):Int)=c:=by omega
 simp only [e] at this
 exact this

theorem or_step {acc cm i:Nat} (h:acc < 128 ^ i) (hf:acc + 128 ^ i * cm < 2 ^ 64):bits BinOp.or IntKind.u64 (acc:Int) (IntKind.u64.wrap ((cm:Int) * 2 ^ (7 * i)))=((acc + 128 ^ i * cm:Nat):Int):=by
 have e:(128:Nat) ^ i=2 ^ (7 * i):=by rw [show (128:Nat)=2 ^ 7 from rfl,← Nat.pow_mul]
 have h1:((cm:Int) * 2 ^ (7 * i))=((cm * 128 ^ i:Nat):Int):=by rw [e];push_cast;rfl
 have h2:cm * 128 ^ i < 2 ^ 64:=by rw [Nat.mul_comm];omega
 have h3:IntKind.u64.wrap ((cm * 128 ^ i:Nat):Int)=((cm * 128 ^ i:Nat):Int):=by
  obtain ⟨X,hX⟩:∃ X,X=cm * 128 ^ i:=⟨_,rfl⟩
  rw [← hX] at h2 ⊢
  unfold IntKind.wrap
  simp [IntKind.signed,IntKind.bits]
  omega
 rw [h1,h3,bits_or_u64_nat _ _ (by omega) (by omega),or_high h]

set_option maxRecDepth 100000 in
set_option maxHeartbeats 1000000 in
theorem number_calls (a:Option Addr) (cap:Nat) (bs:List Int) (w:World) (h:BsAt w a bs) (hb:IsBs bs) (hl:bs.length ≤ 1073741824) :
  Calls Tryz.prog 165 #[.slice a bs.length cap] w fun e w'=>NumOut bs e ∧ w=w':=by
 obtain ⟨N,hN⟩:∃ N,N=bs.length:=⟨_,rfl⟩
 rw [← hN] at hl ⊢
 have H:=Lib.hid h
 have HN:=Lib.hid hN
 have HBS:=Lib.hid hb
 clear h hN hb
 go_enter Tryz.func165,Tryz.ntmps165
 go_wp2_with fail
 go_loopg [5,10] N (fun gk s5 s10 wr=>∃ (i acc:Nat),s5=.int .u64 (acc:Int) ∧ s10=.int .i64 (i:Int) ∧ i + gk=N ∧ i ≤ 9 ∧ PartG bs i acc (bs.drop i) ∧ w=wr)
 case atStart=>exact ⟨0,0,rfl,rfl,by omega,by omega,PartG.start bs,rfl⟩
 case round=>
  obtain ⟨i,acc,rfl,rfl,hi,hi9,hp,rfl⟩:=hrel
  have HP:=Lib.hid hp
  clear hp
  by_cases hlt:i < N
  ·obtain ⟨c,hc⟩:∃ c,bs[i]?=some c:=⟨_,List.getElem?_eq_getElem (by rw [← HN.out];exact hlt)⟩
   have hcr:=HBS.out c (List.mem_of_getElem? hc)
   obtain ⟨b,off,rfl,c0⟩:=H.out i c hc
   have hdrop:bs.drop i=c :: bs.drop (i + 1):=by
    rw [List.drop_eq_getElem_cons (by rw [← HN.out];exact hlt)]
    congr 1
    have:=List.getElem?_eq_getElem (l:=bs) (i:=i) (by rw [← HN.out];exact hlt)
    rw [hc] at this
    exact (Option.some.inj this).symm
   have hp:=HP.out
   rw [hdrop] at hp
   have HP2:=Lib.hid hp
   clear hp hdrop HP hc
   have i0:(0:Int) ≤ (i:Int):=by omega
   have i1:(i:Int) < (N:Int):=by omega
   have g10:((i:Int) == 10)=false:=by simp;omega
   by_cases hg:i=9 ∧ 1 < c
   ·obtain ⟨rfl,hc1⟩:=hg
    have HNO:Hid (numB bs=none):=Lib.hid (by
     unfold numB
     rcases HP2.out.great ⟨hc1,hcr.2⟩ with h | ⟨n,r,h,hn⟩
     ·rw [h]
     ·rw [h]
      simp only []
      rw [if_neg (by omega)])
    go_wp2_with fail
    refine bodyPost_ret (v:=.tuple #[.int .u64 0,.int .i64 0,.int .u8 7]) (by simp [results,Tryz.results165,go_sem]) rfl ?_
    exact ⟨.inr ⟨7,rfl,by decide,HNO.out⟩,rfl⟩
   ·by_cases hz:i ≠ 0 ∧ c=0
    ·obtain ⟨hi0,rfl⟩:=hz
     have HNO:Hid (numB bs=none):=Lib.hid (by
      unfold numB
      rw [HP2.out.zero hi9 hi0])
     have g9:((i:Int) == 9)=false ∨ ((i:Int) == 9)=true:=by cases ((i:Int) == 9) <;> simp
     have gi:(0:Int) < (i:Int):=by omega
     by_cases h9:i=9
     ·subst h9
      go_wp2_with fail
      refine bodyPost_ret (v:=.tuple #[.int .u64 0,.int .i64 0,.int .u8 7]) (by simp [results,Tryz.results165,go_sem]) rfl ?_
      exact ⟨.inr ⟨7,rfl,by decide,HNO.out⟩,rfl⟩
     ·have g9:((i:Int) == 9)=false:=by simp;omega
      go_wp2_with fail
      refine bodyPost_ret (v:=.tuple #[.int .u64 0,.int .i64 0,.int .u8 7]) (by simp [results,Tryz.results165,go_sem]) rfl ?_
      exact ⟨.inr ⟨7,rfl,by decide,HNO.out⟩,rfl⟩
    ·have hand:=and_127 c hcr
     obtain ⟨cm,hcm⟩:∃ cm,cm=c.toNat % 128:=⟨_,rfl⟩
     rw [← hcm] at hand
     have hcm127:cm ≤ 127:=by omega
     have hlow:=HP2.out.low
     by_cases hc8:c < 128
     ·have hcc:cm=c.toNat:=by omega
      have hfit:acc + 128 ^ i * cm < 2 ^ 64:=by rw [hcc];exact PartG.fits hlow hi9 ⟨hcr.1,hc8⟩ (fun h9=>by omega)
      have hor:=or_step hlow hfit
      have HOK:Hid (numB bs=some (acc + 128 ^ i * cm,bs.drop (i + 1))):=Lib.hid (by
       unfold numB
       rw [HP2.out.last hi9 ⟨hcr.1,hc8⟩ (fun hh=>hz hh),← hcc]
       simp only []
       rw [if_pos hfit])
      clear hcm hcc hfit hlow
      by_cases h9:i=9
      ·have g1:¬ (1 < c):=fun hh=>hg ⟨h9,hh⟩
       have g9:((i:Int) == 9)=true:=by simp [h9]
       have gc0:(c == 0)=false:=by simp;exact fun hh=>hz ⟨by omega,hh⟩
       have HI9:=Lib.hid h9
       clear h9 hg hz
       go_wp2_with fail
       all_goals refine bodyPost_ret (v:=.tuple #[.int .u64 ((acc + 128 ^ i * cm:Nat):Int),.int .i64 (((i + 1:Nat)):Int),.int .u8 0]) (by simp [results,Tryz.results165,go_sem,hor]) rfl ?_
       all_goals exact ⟨.inl ⟨_,_,rfl,HOK.out,by omega,by rw [← HN.out];omega⟩,rfl⟩
      ·have g9:((i:Int) == 9)=false:=by simp;omega
       by_cases hc0:c=0
       ·have hi0:i=0:=by
         by_cases h:i=0
         ·exact h
         ·exact absurd ⟨h,hc0⟩ hz
        have gi:¬ ((0:Int) < (i:Int)):=by omega
        have gi2:¬ (0 < i):=by omega
        have gc0:(c == 0)=true:=by simp [hc0]
        have HI0:=Lib.hid hi0
        have HC0:=Lib.hid hc0
        clear hi0 hc0 hg hz h9
        go_wp2_with fail
        all_goals refine bodyPost_ret (v:=.tuple #[.int .u64 ((acc + 128 ^ i * cm:Nat):Int),.int .i64 (((i + 1:Nat)):Int),.int .u8 0]) (by simp [results,Tryz.results165,go_sem,hor]) rfl ?_
        all_goals exact ⟨.inl ⟨_,_,rfl,HOK.out,by omega,by rw [← HN.out];omega⟩,rfl⟩
       ·have gc0:(c == 0)=false:=by simp [hc0]
        go_wp2_with fail
        all_goals refine bodyPost_ret (v:=.tuple #[.int .u64 ((acc + 128 ^ i * cm:Nat):Int),.int .i64 (((i + 1:Nat)):Int),.int .u8 0]) (by simp [results,Tryz.results165,go_sem,hor]) rfl ?_
        all_goals exact ⟨.inl ⟨_,_,rfl,HOK.out,by omega,by rw [← HN.out];omega⟩,rfl⟩
     ·have hi8:i < 9:=by
       by_cases h9:i=9
       ·exact absurd ⟨h9,by omega⟩ hg
       ·omega
      have hp3:=HP2.out.next hi8 ⟨by omega,hcr.2⟩
      rw [← hcm] at hp3
      have hfit:acc + 128 ^ i * cm < 2 ^ 64:=by
       have h3:128 ^ (i + 1) ≤ 128 ^ 9:=Nat.pow_le_pow_right (by decide) (by omega)
       have:=hp3.low
       have e:(2:Nat) ^ 64=128 ^ 9 * 2:=by decide
       omega
      have hor:=or_step hlow hfit
      have HP3:=Lib.hid hp3
      have g9:((i:Int) == 9)=false:=by simp;omega
      have gc0:(c == 0)=false:=by simp;omega
      clear hcm hp3 hfit hlow
      go_wp2_with fail
      all_goals first | (exfalso;omega) | skip
      go_roundg (gk - 1)
      case rel=>exact ⟨i + 1,acc + 128 ^ i * cm,by push_cast;rfl,by simp,by omega,by omega,HP3.out,rfl⟩
      case measure=>omega
  ·have hiN:i=N:=by omega
   have HNO:Hid (numB bs=none):=Lib.hid (by
    have hd:bs.drop i=[]:=List.drop_eq_nil_of_le (by rw [← HN.out];omega)
    have hp:=HP.out
    rw [hd] at hp
    unfold numB
    rw [hp.end hi9])
   subst hiN
   go_wp2_with fail
   refine bodyPost_ret (v:=.tuple #[.int .u64 0,.int .i64 0,.int .u8 11]) (by simp [results,Tryz.results165,go_sem]) rfl ?_
   exact ⟨.inr ⟨11,rfl,by decide,HNO.out⟩,rfl⟩

theorem same04_calls (a b:Option Addr) (cap cap2:Nat) (ps qs:List Int) (w:World) (h1:BsAt w a ps) (h2:BsAt w b qs) (hl1:ps.length ≤ 1073741824) (hl2:qs.length ≤ 1073741824) :
  Calls Tryz.prog 18 #[.slice a ps.length cap,.slice b qs.length cap2] w fun e w'=>e=.returned (.bool (decide (ps=qs))) ∧ Keeps w w':=by
 by_cases hne:ps.length=qs.length
 ·obtain ⟨N,hN⟩:∃ N,N=ps.length:=⟨_,rfl⟩
  have hM:N=qs.length:=hN.trans hne
  rw [← hM,← hN]
  rw [← hN] at hl1
  have H1:=Lib.hid h1
  have H2:=Lib.hid h2
  have HN:=Lib.hid hN
  have HM:=Lib.hid hM
  clear h1 h2 hN hM hne hl2
  go_enter Tryz.func18,Tryz.ntmps18
  go_wp2
  go_loopg [5] N (fun gk s5 wr=>∃ d:Nat,s5=.int .i64 (d:Int) ∧ d + gk=N ∧ (∀ i,i < d → ps[i]?=qs[i]?) ∧ Keeps w wr)
  case atStart=>exact ⟨0,rfl,by omega,fun i hi=>by omega,by (exact kp)⟩
  case round=>
   obtain ⟨d,rfl,hd,hn,hk⟩:=hrel
   have HNN:=Lib.hid hn
   clear hn
   by_cases hlt:d < N
   ·obtain ⟨x,hx⟩:∃ b,ps[d]?=some b:=⟨_,List.getElem?_eq_getElem (by rw [← HN.out];exact hlt)⟩
    obtain ⟨y,hy⟩:∃ b,qs[d]?=some b:=⟨_,List.getElem?_eq_getElem (by rw [← HM.out];exact hlt)⟩
    obtain ⟨b1,o1,rfl,c0⟩:=H1.out d x hx
    obtain ⟨b2,o2,rfl,c1⟩:=H2.out d y hy
    replace c0:=hk.cell c0
    replace c1:=hk.cell c1
    have HX:=Lib.hid hx
    have HY:=Lib.hid hy
    have i0:(0:Int) ≤ (d:Int):=by omega
    have i1:(d:Int) < (N:Int):=by omega
    clear hx hy
    by_cases hab:x=y
    ·subst hab
     go_wp2_with fail
     go_quiet (fail)
     go_wp2
     go_roundg (gk - 1)
     case rel=>
      refine ⟨d + 1,by simp,by omega,fun i hi=>?_,by (exact kp)⟩
      by_cases e:i=d
      ·subst e;rw [HX.out,HY.out]
      ·exact HNN.out i (by omega)
     case measure=>omega
    ·have gab:(x != y)=true:=by simp [hab]
     have hf:Hid (¬ ps=qs):=Lib.hid (fun e=>by have:=HX.out;rw [e,HY.out] at this;exact hab (Option.some.inj this).symm)
     go_wp2_with fail
     go_quiet (fail)
     go_wp2
     go_ret
     exact ⟨by rw [decide_eq_false hf.out];rfl,by (exact kp)⟩
   ·have hg0:d=N:=by omega
    have hh:ps=qs:=by
     apply List.ext_getElem?
     intro i
     by_cases hi:i < d
     ·exact HNN.out i hi
     ·rw [List.getElem?_eq_none (by rw [← HN.out];omega),List.getElem?_eq_none (by rw [← HM.out];omega)]
    have HH:=Lib.hid hh
    clear hg0 hh
    go_wp2_with fail
    go_ret
    exact ⟨by rw [decide_eq_true HH.out];rfl,hk⟩
 ·have hf:decide (ps=qs)=false:=decide_eq_false (fun e=>hne (by rw [e]))
  obtain ⟨N,hN⟩:∃ N,N=ps.length:=⟨_,rfl⟩
  obtain ⟨K,hK⟩:∃ K,K=qs.length:=⟨_,rfl⟩
  rw [hf]
  rw [← hN,← hK] at hne ⊢
  have gne:((N:Int) != (K:Int))=true:=by simp;omega
  clear h1 h2 hl1 hl2 hN hK hf hne
  go_enter Tryz.func18,Tryz.ntmps18
  go_wp2
  go_ret
  exact ⟨rfl,by (exact kp)⟩

end Go.Proofs.YtfpjogpjocedaaaGreat
