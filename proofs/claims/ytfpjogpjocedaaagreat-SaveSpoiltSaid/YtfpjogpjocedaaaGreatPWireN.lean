/-
  Rows of bytes of one's own, appended to; ramageref04.Bytes, ramageref04.Same.
-/
import Derived.Test.YtfpjogpjocedaaaGreatPWireG
import Derived.Laws.AppendOwnNone
import Derived.Laws.Bits64b
namespace Go.Proofs.YtfpjogpjocedaaaGreat
set_option linter.unusedSimpArgs false
set_option linter.unusedVariables false
set_option maxHeartbeats 600000
open Go.RowKit

def BsRow (base:Nat) (w:World) (v:Value) (bs:List Int):Prop:=w.ownsRow base 5 1 v bs.length (byteVs bs)

def BsAt (w:World) (a:Option Addr) (bs:List Int):Prop:=∀ i x,bs[i]?=some x → ∃ b off,a=some ⟨b,off,none⟩ ∧ w.cell? ⟨b,off + i,none⟩=some (.int .u8 x)

theorem BsAt.keeps {w w':World} {a:Option Addr} {bs:List Int} (h:BsAt w a bs) (hk:Keeps w w'):BsAt w' a bs:=fun i x hx=>by
 obtain ⟨b,off,ha,hc⟩:=h i x hx
 exact ⟨b,off,ha,hk.cell hc⟩

theorem BsRow.keeps {base:Nat} {w w':World} {v:Value} {bs:List Int} (h:BsRow base w v bs) (hk:Keeps w w'):BsRow base w' v bs:=hk.owns h

theorem BsRow.slice {base:Nat} {w:World} {v:Value} {bs:List Int} (h:BsRow base w v bs):∃ a cap,v=.slice a bs.length cap ∧ BsAt w a bs:=by
 rcases h.2 with ⟨h0,hn⟩ | ⟨g,cap,cur,h0,hb,hg,hnc,hcm,hcs,htake⟩
 ·refine ⟨none,0,by rw [h0,hn],fun i x hx=>?_⟩
  have:=(List.getElem?_eq_some_iff.1 hx).1
  omega
 ·refine ⟨some ⟨g,0,none⟩,cap,h0,fun i x hx=>⟨g,0,rfl,?_⟩⟩
  have hi:=(List.getElem?_eq_some_iff.1 hx).1
  rw [h0] at h
  have h2:=World.ownsRow.cellAt h (j:=i) (by omega)
  rw [Nat.zero_add,h2]
  unfold byteVs
  rw [List.getElem?_map,hx]
  rfl

def IsBlk (w:World) (t:TypeId) (k:Nat):Prop:=∃ cs,w.heap[k]?=some (.cells cs t (0,0))

theorem BsRow.blk {base:Nat} {w:World} {v:Value} {bs:List Int} (h:BsRow base w v bs) {k:Nat} (hk:v.ownBlock=some k):IsBlk w 5 k ∧ base ≤ k:=by
 obtain ⟨cs,hc⟩:=owns_type h hk
 exact ⟨⟨cs,hc⟩,row_from h hk⟩

theorem BsRow.nil (base:Nat) (w:World):BsRow base w (.slice none 0 0) []:=World.ownsRow_nil _ _ _ _

theorem wpB_row {P:Program} {w:World} {ops:Array Oper} {rest:List Oper} {o:Oper} {a:Act} {Q:Exit → Act → World → Prop} (hgd:o.guard=none) (s x:Operand) (t:TypeId)
  (ho:o.op=.call { callee:=.builtin .append,args:=#[s,x],argTypes:=#[t,t] })
  (base b2:Nat) (e:TypeId) (i:TypeInfo) (z:Value) (bytes:Nat) (ht:P.underlying t=some (.slice e)) (hi:P.info? e=some i) (hz:i.zero=some z)
  (hsize:i.size=1) (hby:i.bytes=bytes) (hzs:z.cells.size=1)
  (v:Value) (n:Nat) (xs:List Value) (hs:a.eval s=v) (hown:w.ownsRow base e 1 v n xs)
  (xv:Value) (m:Nat) (news:List Value) (hx:a.eval x=xv) (hrow:w.ownsRow b2 e 1 xv m news) (h1:∀ u ∈ news,u.oneCell'=true)
  (h63:n + m ≤ maxLen) (hbytes:(n + m) * bytes ≤ 140737488355328) (hbase:base ≤ w.heap.size)
  (h:∀ v' w',w'.ownsRow base e 1 v' (n + m) (xs ++ news) → w.grownBy w' v.ownBlock → wpList P ops Q rest (a.put o.dst v') w'):wpList P ops Q (o :: rest) a w:=by
 rcases hrow.2 with ⟨rfl,rfl⟩ | ⟨g,cap,cur,rfl,_⟩
 ·have hnil:news=[]:=by simpa using hrow.1
  subst hnil
  refine wpList_append_own_none hgd s x t ho base e i 1 ht hi v n xs hs hown hx (h v w (by simpa using hown) ?_)
  exact ⟨rfl,rfl,rfl,Nat.le_refl _,fun _ _ _=>rfl⟩
 ·refine wpList_append_own _ hgd s x t ho base e i z 1 bytes ht hi hz hsize hby hzs (by omega) v n xs hs hown ⟨g,0,none⟩ m cap news hx hrow.1 (fun j u hj=>?_) h1 h63 hbytes hbase (fun v' w' h2 h3 _=>h v' w' h2 h3)
  have hj':=(List.getElem?_eq_some_iff.1 hj).1
  have hl:=hrow.1
  have hadd:(⟨g,0,none⟩:Addr).add j=⟨g,j,none⟩:=by unfold Addr.add;split <;> simp_all
  rw [hadd,hrow.cellAt j (by omega),hj]

theorem wpB_append {w:World} {ops:Array Oper} {rest:List Oper} {o:Oper} {a:Act} {Q:Exit → Act → World → Prop} (hgd:o.guard=none) (s x:Operand)
  (ho:o.op=.call { callee:=.builtin .append,args:=#[s,x],argTypes:=#[24,24] })
  (base b2:Nat) (v xv:Value) (bs cs:List Int) (hs:a.eval s=v) (hx:a.eval x=xv) (hown:BsRow base w v bs) (hrow:BsRow b2 w xv cs) (hl:bs.length + cs.length ≤ 140737488355328) (hbase:base ≤ w.heap.size)
  (h:∀ v' w',BsRow base w' v' (bs ++ cs) → w.grownBy w' v.ownBlock → wpList Tryz.prog ops Q rest (a.put o.dst v') w'):wpList Tryz.prog ops Q (o :: rest) a w:=by
 obtain ⟨i,hi,hz0,hz1,hz2⟩:=info_parts info_byte
 refine wpB_row hgd s x 24 ho base b2 5 i (.int .u8 0) 1 Tryz.underlying24 hi hz0 hz1 hz2 rfl v bs.length (byteVs bs) hs hown xv cs.length (byteVs cs) hx hrow (byteVs_one cs) (by unfold maxLen;omega) (by omega) hbase (fun v' w' h2 h3=>h v' w' ?_ h3)
 unfold BsRow
 rw [byteVs_append,List.length_append]
 exact h2

theorem wpB_append_op {o:Oper} {a:Act} {w:World} {K:Act → World → Prop} {Q:Exit → Act → World → Prop} (s x:Operand)
  (ho:o.op=.call { callee:=.builtin .append,args:=#[s,x],argTypes:=#[24,24] })
  (base b2:Nat) (v xv:Value) (bs cs:List Int) (hs:a.eval s=v) (hx:a.eval x=xv) (hown:BsRow base w v bs) (hrow:BsRow b2 w xv cs) (hpos:0 < cs.length) (hl:bs.length + cs.length ≤ 140737488355328) (hbase:base ≤ w.heap.size)
  (h:∀ v' w',BsRow base w' v' (bs ++ cs) → w.grownBy w' v.ownBlock → K (a.put o.dst v') w'):o.wp Tryz.prog a w K Q:=by
 obtain ⟨i,hi,hz0,hz1,hz2⟩:=info_parts info_byte
 obtain ⟨g,cap,rfl⟩:=owns_shape hrow hpos
 refine wp_append_fresh s x 24 ho base 5 i (.int .u8 0) 1 1 Tryz.underlying24 hi hz0 hz1 hz2 rfl (by decide) v bs.length (byteVs bs) hs hown ⟨g,0,none⟩ cs.length cap (byteVs cs) hx (by rw [byteVs_len,Nat.mul_one]) (World.ownsRow.cells hrow (g:=g) rfl) (byteVs_one cs) (by unfold maxLen;omega) (by omega) hbase (fun v' w' h2 h3 _=>h v' w' ?_ h3)
 unfold BsRow
 rw [byteVs_append,List.length_append]
 exact h2

theorem BsRow.other {base:Nat} {w:World} {v:Value} {bs:List Int} (h:BsRow base w v bs) {k:Nat} {cs:Array Value} {t:TypeId} {q:Nat × Nat} (hk:w.heap[k]?=some (.cells cs t q)) (ht:t ≠ 5):v.ownBlock ≠ some k:=fun e=>by
 obtain ⟨⟨cs',hc⟩,_⟩:=h.blk e
 rw [hk] at hc
 cases hc
 exact ht rfl

open Go Go.RowKit

def numB (bs:List Int):Option (Nat × List Int):=match getG 10 bs with
 | none=>none
 | some (n,r)=>if n < 2 ^ 64 then some (n,r) else none

def NumOut (bs:List Int) (e:Ending):Prop:=
 (∃ n size:Nat,e=.returned (.tuple #[.int .u64 (n:Int),.int .i64 (size:Int),.int .u8 0]) ∧ numB bs=some (n,bs.drop size) ∧ 0 < size ∧ size ≤ bs.length) ∨
 (∃ er:Int,e=.returned (.tuple #[.int .u64 0,.int .i64 0,.int .u8 er]) ∧ (er=7 ∨ er=11) ∧ numB bs=none)

theorem or_high {acc x:Nat} {i:Nat} (h:acc < 128 ^ i):acc ||| x * 128 ^ i=acc + 128 ^ i * x:=by
 have e:(128:Nat) ^ i=2 ^ (7 * i):=by rw [show (128:Nat)=2 ^ 7 from rfl,← Nat.pow_mul]
 rw [e] at h ⊢
 rw [Nat.mul_comm x,Nat.or_comm,← Nat.two_pow_add_eq_or_of_lt h,Nat.add_comm]

theorem and_127 (c:Int) (h:0 ≤ c ∧ c ≤ 255):bits BinOp.and IntKind.u8 c 127=((c.toNat % 128:Nat):Int):=by
 have key:∀ k:Fin 256,bits BinOp.and IntKind.u8 ((k.val:Nat):Int) 127=((k.val % 128:Nat):Int):=by decide +kernel
 have:=key ⟨c.toNat,by omega⟩
 have e:((c.toNat:Nat):Int)=c:=by omega
 simp only [e] at this
 exact this

theorem or_step {acc cm i:Nat} (h:acc < 128 ^ i) (hf:acc + 128 ^ i * cm < 2 ^ 64):bits BinOp.or IntKind.u64 (acc:Int) (IntKind.u64.wrap ((cm:Int) * 2 ^ (7 * i)))=((acc + 128 ^ i * cm:Nat):Int):=by
 have e:(128:Nat) ^ i=2 ^ (7 * i):=by rw [show (128:Nat)=2 ^ 7 from rfl,← Nat.pow_mul]
 have h1:((cm:Int) * 2 ^ (7 * i))=((cm * 128 ^ i:Nat):Int):=by rw [e];push_cast;rfl
 have h2:cm * 128 ^ i < 2 ^ 64:=by rw [Nat.mul_comm];omega
 have h3:IntKind.u64.wrap ((cm * 128 ^ i:Nat):Int)=((cm * 128 ^ i:Nat):Int):=by
  obtain ⟨X,hX⟩:∃ X,X=cm * 128 ^ i:=⟨_,rfl⟩
  rw [← hX] at h2 ⊢
  unfold IntKind.wrap
  simp [IntKind.signed,IntKind.bits]
  omega
 rw [h1,h3,bits_or_u64_nat _ _ (by omega) (by omega),or_high h]

set_option maxRecDepth 100000 in
set_option maxHeartbeats 1000000 in
theorem number_calls (a:Option Addr) (cap:Nat) (bs:List Int) (w:World) (h:BsAt w a bs) (hb:IsBs bs) (hl:bs.length ≤ 1073741824) :
  Calls Tryz.prog 165 #[.slice a bs.length cap] w fun e w'=>NumOut bs e ∧ w=w':=by
 obtain ⟨N,hN⟩:∃ N,N=bs.length:=⟨_,rfl⟩
 rw [← hN] at hl ⊢
 have H:=Lib.hid h
 have HN:=Lib.hid hN
 have HBS:=Lib.hid hb
 clear h hN hb
 go_enter Tryz.func165,Tryz.ntmps165
 go_wp2_with fail
 go_loopg [5,10] N (fun gk s5 s10 wr=>∃ (i acc:Nat),s5=.int .u64 (acc:Int) ∧ s10=.int .i64 (i:Int) ∧ i + gk=N ∧ i ≤ 9 ∧ PartG bs i acc (bs.drop i) ∧ w=wr)
 case atStart=>exact ⟨0,0,rfl,rfl,by omega,by omega,PartG.start bs,rfl⟩
 case round=>
  obtain ⟨i,acc,rfl,rfl,hi,hi9,hp,rfl⟩:=hrel
  have HP:=Lib.hid hp
  clear hp
  by_cases hlt:i < N
  ·obtain ⟨c,hc⟩:∃ c,bs[i]?=some c:=⟨_,List.getElem?_eq_getElem (by rw [← HN.out];exact hlt)⟩
   have hcr:=HBS.out c (List.mem_of_getElem? hc)
   obtain ⟨b,off,rfl,c0⟩:=H.out i c hc
   have hdrop:bs.drop i=c :: bs.drop (i + 1):=by
    rw [List.drop_eq_getElem_cons (by rw [← HN.out];exact hlt)]
    congr 1
    have:=List.getElem?_eq_getElem (l:=bs) (i:=i) (by rw [← HN.out];exact hlt)
    rw [hc] at this
    exact (Option.some.inj this).symm
   have hp:=HP.out
   rw [hdrop] at hp
   have HP2:=Lib.hid hp
   clear hp hdrop HP hc
   have i0:(0:Int) ≤ (i:Int):=by omega
   have i1:(i:Int) < (N:Int):=by omega
   have g10:((i:Int) == 10)=false:=by simp;omega
   by_cases hg:i=9 ∧ 1 < c
   ·obtain ⟨rfl,hc1⟩:=hg
    have HNO:Hid (numB bs=none):=Lib.hid (by
     unfold numB
     rcases HP2.out.great ⟨hc1,hcr.2⟩ with h | ⟨n,r,h,hn⟩
     ·rw [h]
     ·rw [h]
      simp only []
      rw [if_neg (by omega)])
    go_wp2_with fail
    refine bodyPost_ret (v:=.tuple #[.int .u64 0,.int .i64 0,.int .u8 7]) (by simp [results,Tryz.results165,go_sem]) rfl ?_
    exact ⟨.inr ⟨7,rfl,by decide,HNO.out⟩,rfl⟩
   ·by_cases hz:i ≠ 0 ∧ c=0
    ·obtain ⟨hi0,rfl⟩:=hz
     have HNO:Hid (numB bs=none):=Lib.hid (by
      unfold numB
      rw [HP2.out.zero hi9 hi0])
     have g9:((i:Int) == 9)=false ∨ ((i:Int) == 9)=true:=by cases ((i:Int) == 9) <;> simp
     have gi:(0:Int) < (i:Int):=by omega
     by_cases h9:i=9
     ·subst h9
      go_wp2_with fail
      refine bodyPost_ret (v:=.tuple #[.int .u64 0,.int .i64 0,.int .u8 7]) (by simp [results,Tryz.results165,go_sem]) rfl ?_
      exact ⟨.inr ⟨7,rfl,by decide,HNO.out⟩,rfl⟩
     ·have g9:((i:Int) == 9)=false:=by simp;omega
      go_wp2_with fail
      refine bodyPost_ret (v:=.tuple #[.int .u64 0,.int .i64 0,.int .u8 7]) (by simp [results,Tryz.results165,go_sem]) rfl ?_
      exact ⟨.inr ⟨7,rfl,by decide,HNO.out⟩,rfl⟩
    ·have hand:=and_127 c hcr
     obtain ⟨cm,hcm⟩:∃ cm,cm=c.toNat % 128:=⟨_,rfl⟩
     rw [← hcm] at hand
     have hcm127:cm ≤ 127:=by omega
     have hlow:=HP2.out.low
     by_cases hc8:c < 128
     ·have hcc:cm=c.toNat:=by omega
      have hfit:acc + 128 ^ i * cm < 2 ^ 64:=by rw [hcc];exact PartG.fits hlow hi9 ⟨hcr.1,hc8⟩ (fun h9=>by omega)
      have hor:=or_step hlow hfit
      have HOK:Hid (numB bs=some (acc + 128 ^ i * cm,bs.drop (i + 1))):=Lib.hid (by
       unfold numB
       rw [HP2.out.last hi9 ⟨hcr.1,hc8⟩ (fun hh=>hz hh),← hcc]
       simp only []
       rw [if_pos hfit])
      clear hcm hcc hfit hlow
      by_cases h9:i=9
      ·have g1:¬ (1 < c):=fun hh=>hg ⟨h9,hh⟩
       have g9:((i:Int) == 9)=true:=by simp [h9]
       have gc0:(c == 0)=false:=by simp;exact fun hh=>hz ⟨by omega,hh⟩
       have HI9:=Lib.hid h9
       clear h9 hg hz
       go_wp2_with fail
       all_goals refine bodyPost_ret (v:=.tuple #[.int .u64 ((acc + 128 ^ i * cm:Nat):Int),.int .i64 (((i + 1:Nat)):Int),.int .u8 0]) (by simp [results,Tryz.results165,go_sem,hor]) rfl ?_
       all_goals exact ⟨.inl ⟨_,_,rfl,HOK.out,by omega,by rw [← HN.out];omega⟩,rfl⟩
      ·have g9:((i:Int) == 9)=false:=by simp;omega
       by_cases hc0:c=0
       ·have hi0:i=0:=by
         by_cases h:i=0
         ·exact h
         ·exact absurd ⟨h,hc0⟩ hz
        have gi:¬ ((0:Int) < (i:Int)):=by omega
        have gi2:¬ (0 < i):=by omega
        have gc0:(c == 0)=true:=by simp [hc0]
        have HI0:=Lib.hid hi0
        have HC0:=Lib.hid hc0
        clear hi0 hc0 hg hz h9
        go_wp2_with fail
        all_goals refine bodyPost_ret (v:=.tuple #[.int .u64 ((acc + 128 ^ i * cm:Nat):Int),.int .i64 (((i + 1:Nat)):Int),.int .u8 0]) (by simp [results,Tryz.results165,go_sem,hor]) rfl ?_
        all_goals exact ⟨.inl ⟨_,_,rfl,HOK.out,by omega,by rw [← HN.out];omega⟩,rfl⟩
       ·have gc0:(c == 0)=false:=by simp [hc0]
        go_wp2_with fail
        all_goals refine bodyPost_ret (v:=.tuple #[.int .u64 ((acc + 128 ^ i * cm:Nat):Int),.int .i64 (((i + 1:Nat)):Int),.int .u8 0]) (by simp [results,Tryz.results165,go_sem,hor]) rfl ?_
        all_goals exact ⟨.inl ⟨_,_,rfl,HOK.out,by omega,by rw [← HN.out];omega⟩,rfl⟩
     ·have hi8:i < 9:=by
       by_cases h9:i=9
       ·exact absurd ⟨h9,by omega⟩ hg
       ·omega
      have hp3:=HP2.out.next hi8 ⟨by omega,hcr.2⟩
      rw [← hcm] at hp3
      have hfit:acc + 128 ^ i * cm < 2 ^ 64:=by
       have h3:128 ^ (i + 1) ≤ 128 ^ 9:=Nat.pow_le_pow_right (by decide) (by omega)
       have:=hp3.low
       have e:(2:Nat) ^ 64=128 ^ 9 * 2:=by decide
       omega
      have hor:=or_step hlow hfit
      have HP3:=Lib.hid hp3
      have g9:((i:Int) == 9)=false:=by simp;omega
      have gc0:(c == 0)=false:=by simp;omega
      clear hcm hp3 hfit hlow
      go_wp2_with fail
      all_goals first | (exfalso;omega) | skip
      go_roundg (gk - 1)
      case rel=>exact ⟨i + 1,acc + 128 ^ i * cm,by push_cast;rfl,by simp,by omega,by omega,HP3.out,rfl⟩
      case measure=>omega
  ·have hiN:i=N:=by omega
   have HNO:Hid (numB bs=none):=Lib.hid (by
    have hd:bs.drop i=[]:=List.drop_eq_nil_of_le (by rw [← HN.out];omega)
    have hp:=HP.out
    rw [hd] at hp
    unfold numB
    rw [hp.end hi9])
   subst hiN
   go_wp2_with fail
   refine bodyPost_ret (v:=.tuple #[.int .u64 0,.int .i64 0,.int .u8 11]) (by simp [results,Tryz.results165,go_sem]) rfl ?_
   exact ⟨.inr ⟨11,rfl,by decide,HNO.out⟩,rfl⟩

theorem perm_of_sub:∀ (R ps:List Int),R.Nodup → (∀ x ∈ R,x ∈ ps) → ps.length ≤ R.length → ps.Perm R:=by
 intro R
 induction R with
 | nil=>
  intro ps _ _ hl
  rw [List.length_nil,Nat.le_zero,List.length_eq_zero_iff] at hl
  rw [hl]
 | cons x R ih=>
  intro ps hn hs hl
  rw [List.nodup_cons] at hn
  have hx:=hs x (by simp)
  have hp:=List.perm_cons_erase hx
  refine hp.trans (List.Perm.cons x (ih _ hn.2 (fun y hy=>?_) ?_))
  ·have hyx:y ≠ x:=fun e=>hn.1 (e ▸ hy)
   exact (List.mem_erase_of_ne hyx).2 (hs y (by simp [hy]))
  ·have:=hp.length_eq
   simp at this hl
   omega

def numsI (n:Nat):List Int:=(List.range n).map (fun i:Nat=>(i:Int))

theorem numsI_len (n:Nat):(numsI n).length=n:=by unfold numsI;simp

theorem mem_numsI {n:Nat} {x:Int}:x ∈ numsI n ↔ 0 ≤ x ∧ x < (n:Int):=by
 unfold numsI
 rw [List.mem_map]
 constructor
 ·rintro ⟨a,ha,rfl⟩
  rw [List.mem_range] at ha
  omega
 ·intro h
  exact ⟨x.toNat,by rw [List.mem_range];omega,by omega⟩

theorem nodup_numsI (n:Nat):(numsI n).Nodup:=by
 unfold numsI
 exact List.Pairwise.map _ (fun a b (h:a ≠ b) e=>h (by omega)) List.nodup_range

theorem permB_perm {ps:List Int}:permB ps=true ↔ (ps.length ≤ 16 ∧ ps.Perm (numsI ps.length)):=by
 rw [permB_iff]
 constructor
 ·rintro ⟨h1,h2,h3⟩
  exact ⟨h1,(perm_of_sub ps (numsI ps.length) h3 (fun x hx=>mem_numsI.2 (h2 x hx)) (by rw [numsI_len];omega)).symm⟩
 ·rintro ⟨h1,h2⟩
  exact ⟨h1,fun x hx=>mem_numsI.1 (h2.mem_iff.1 hx),h2.nodup_iff.2 (nodup_numsI _)⟩

theorem permB_count {ps:List Int} (h16:ps.length ≤ 16):permB ps=true ↔ ∀ i:Nat,i < ps.length → ps.count (i:Int)=1:=by
 rw [permB_perm]
 constructor
 ·rintro ⟨_,h⟩ i hi
  rw [h.count_eq,(nodup_numsI _).count,if_pos (mem_numsI.2 (by omega))]
 ·intro h
  refine ⟨h16,perm_of_sub _ _ (nodup_numsI _) (fun x hx=>?_) (by rw [numsI_len];omega)⟩
  obtain ⟨h0,h1⟩:=mem_numsI.1 hx
  have:=h x.toNat (by omega)
  rw [show ((x.toNat:Nat):Int)=x by omega] at this
  exact List.count_pos_iff.1 (by omega)

set_option maxRecDepth 100000 in
theorem refRight_calls (a:Option Addr) (cap:Nat) (ps:List Int) (w:World) (h:IntsAt w a ps) (hl:ps.length ≤ 16) :
  Calls Tryz.prog 14 #[.slice a ps.length cap] w fun e w'=>e=.returned (.bool (permB ps)) ∧ w=w':=by
 have hcnt:=permB_count hl
 obtain ⟨N,hN⟩:∃ N,N=ps.length:=⟨_,rfl⟩
 rw [← hN] at hl hcnt ⊢
 have H:=Lib.hid h
 have HN:=Lib.hid hN
 have HC:=Lib.hid hcnt
 clear h hN hcnt
 go_enter Tryz.func14,Tryz.ntmps14
 go_wp2
 go_loopg [3,4,5] N (fun gk s3 s4 s5 wr=>∃ (d:Nat),s3=.int .i64 (d:Int) ∧ d + gk=N ∧ (∀ i:Nat,i < d → ps.count (i:Int)=1) ∧ w=wr)
 case atStart=>exact ⟨0,rfl,by omega,fun i hi=>by omega,rfl⟩
 case round=>
  obtain ⟨d,rfl,hd,hall,rfl⟩:=hrel
  have HALL:=Lib.hid hall
  obtain ⟨g0,hg0⟩:∃ g,g=gk:=⟨_,rfl⟩
  have HG0:=Lib.hid hg0
  clear hall hg0
  by_cases hlt:d < N
  ·go_wp2_with fail
   go_loopg [4,5] N (fun gk s4 s5 wi=>∃ (j c:Nat),s5=.int .i64 (j:Int) ∧ s4=.int .i64 (c:Int) ∧ j + gk=N ∧ c=(ps.take j).count (d:Int) ∧ c ≤ j ∧ w=wi)
   case atStart=>exact ⟨0,0,rfl,rfl,by omega,by simp,by omega,rfl⟩
   case round=>
    obtain ⟨j,c,rfl,rfl,hj,hcc,hcj,rfl⟩:=hrel
    have HCC:=Lib.hid hcc
    clear hcc
    by_cases hjl:j < N
    ·obtain ⟨x,hx⟩:∃ b,ps[j]?=some b:=⟨_,List.getElem?_eq_getElem (by rw [← HN.out];exact hjl)⟩
     obtain ⟨b,off,rfl,hc⟩:=H.out j x hx
     have ht:=take_snoc hx
     have HT:=Lib.hid ht
     clear hx ht
     by_cases hxd:x=(d:Int)
     ·subst hxd
      go_wp2_with fail
      go_roundg (gk - 1)
      case rel=>exact ⟨j + 1,c + 1,by simp,by simp,by omega,by rw [HT.out,List.count_append,HCC.out];simp,by omega,rfl⟩
      case measure=>omega
     ·go_wp2_with fail
      go_roundg (gk - 1)
      case rel=>exact ⟨j + 1,c,by simp,rfl,by omega,by rw [HT.out,List.count_append,HCC.out];simp [hxd],by omega,rfl⟩
      case measure=>omega
    ·have hcp:c=ps.count (d:Int):=by
      rw [HCC.out,List.take_of_length_le (by rw [← HN.out];omega)]
     have HCP:=Lib.hid hcp
     clear hcp
     by_cases h1:c=1
     ·subst h1
      have hall:∀ i:Nat,i < d + 1 → ps.count (i:Int)=1:=fun i hi=>by
       by_cases e:i=d
       ·subst e;exact HCP.out.symm
       ·exact HALL.out i (by omega)
      have HALL2:=Lib.hid hall
      clear hall
      go_wp2_with fail
      go_roundg (g0 - 1)
      case rel=>exact ⟨d + 1,by simp,by have:=HG0.out;omega,HALL2.out,rfl⟩
      case measure=>have:=HG0.out;omega
     ·have hf:permB ps=false:=by
       cases hb:permB ps with
       | false=>rfl
       | true=>have:=HC.out.1 hb d hlt;have:=HCP.out;omega
      have HF:=Lib.hid hf
      have g1:((c:Int) != 1)=true:=by simp;omega
      clear hf
      go_wp2_with fail
      go_ret
      exact ⟨by rw [HF.out];rfl,rfl⟩
  ·have ht:permB ps=true:=HC.out.2 (fun i hi=>HALL.out i (by omega))
   have HT:=Lib.hid ht
   clear ht
   go_wp2_with fail
   go_ret
   exact ⟨by rw [HT.out];simp;omega,rfl⟩

end Go.Proofs.YtfpjogpjocedaaaGreat
