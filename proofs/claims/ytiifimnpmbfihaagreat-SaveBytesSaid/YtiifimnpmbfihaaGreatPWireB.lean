/-
  Rows of bytes of one's own, appended to; ramageref04.Bytes, ramageref04.Same.
-/
import Derived.Test.YtiifimnpmbfihaaGreatPWireW
import Derived.Laws.AppendOwnNone
namespace Go.Proofs.YtiifimnpmbfihaaGreat
set_option linter.unusedSimpArgs false
set_option linter.unusedVariables false
set_option maxHeartbeats 600000
open Go.RowKit

def BsRow (base:Nat) (w:World) (v:Value) (bs:List Int):Prop:=w.ownsRow base 5 1 v bs.length (byteVs bs)

def BsAt (w:World) (a:Option Addr) (bs:List Int):Prop:=∀ i x,bs[i]?=some x → ∃ b off,a=some ⟨b,off,none⟩ ∧ w.cell? ⟨b,off + i,none⟩=some (.int .u8 x)

theorem BsAt.keeps {w w':World} {a:Option Addr} {bs:List Int} (h:BsAt w a bs) (hk:Keeps w w'):BsAt w' a bs:=fun i x hx=>by
 obtain ⟨b,off,ha,hc⟩:=h i x hx
 exact ⟨b,off,ha,hk.cell hc⟩

theorem BsRow.keeps {base:Nat} {w w':World} {v:Value} {bs:List Int} (h:BsRow base w v bs) (hk:Keeps w w'):BsRow base w' v bs:=hk.owns h

theorem BsRow.slice {base:Nat} {w:World} {v:Value} {bs:List Int} (h:BsRow base w v bs):∃ a cap,v=.slice a bs.length cap ∧ BsAt w a bs:=by
 rcases h.2 with ⟨h0,hn⟩ | ⟨g,cap,cur,h0,hb,hg,hnc,hcm,hcs,htake⟩
 ·refine ⟨none,0,by rw [h0,hn],fun i x hx=>?_⟩
  have:=(List.getElem?_eq_some_iff.1 hx).1
  omega
 ·refine ⟨some ⟨g,0,none⟩,cap,h0,fun i x hx=>⟨g,0,rfl,?_⟩⟩
  have hi:=(List.getElem?_eq_some_iff.1 hx).1
  rw [h0] at h
  have h2:=World.ownsRow.cellAt h (j:=i) (by omega)
  rw [Nat.zero_add,h2]
  unfold byteVs
  rw [List.getElem?_map,hx]
  rfl

def IsBlk (w:World) (t:TypeId) (k:Nat):Prop:=∃ cs,w.heap[k]?=some (.cells cs t (0,0))

theorem BsRow.blk {base:Nat} {w:World} {v:Value} {bs:List Int} (h:BsRow base w v bs) {k:Nat} (hk:v.ownBlock=some k):IsBlk w 5 k ∧ base ≤ k:=by
 obtain ⟨cs,hc⟩:=owns_type h hk
 exact ⟨⟨cs,hc⟩,row_from h hk⟩

theorem BsRow.nil (base:Nat) (w:World):BsRow base w (.slice none 0 0) []:=World.ownsRow_nil _ _ _ _

theorem wpB_row {P:Program} {w:World} {ops:Array Oper} {rest:List Oper} {o:Oper} {a:Act} {Q:Exit → Act → World → Prop} (hgd:o.guard=none) (s x:Operand) (t:TypeId)
  (ho:o.op=.call { callee:=.builtin .append,args:=#[s,x],argTypes:=#[t,t] })
  (base b2:Nat) (e:TypeId) (i:TypeInfo) (z:Value) (bytes:Nat) (ht:P.underlying t=some (.slice e)) (hi:P.info? e=some i) (hz:i.zero=some z)
  (hsize:i.size=1) (hby:i.bytes=bytes) (hzs:z.cells.size=1)
  (v:Value) (n:Nat) (xs:List Value) (hs:a.eval s=v) (hown:w.ownsRow base e 1 v n xs)
  (xv:Value) (m:Nat) (news:List Value) (hx:a.eval x=xv) (hrow:w.ownsRow b2 e 1 xv m news) (h1:∀ u ∈ news,u.oneCell'=true)
  (h63:n + m ≤ maxLen) (hbytes:(n + m) * bytes ≤ 140737488355328) (hbase:base ≤ w.heap.size)
  (h:∀ v' w',w'.ownsRow base e 1 v' (n + m) (xs ++ news) → w.grownBy w' v.ownBlock → wpList P ops Q rest (a.put o.dst v') w'):wpList P ops Q (o :: rest) a w:=by
 rcases hrow.2 with ⟨rfl,rfl⟩ | ⟨g,cap,cur,rfl,_⟩
 ·have hnil:news=[]:=by simpa using hrow.1
  subst hnil
  refine wpList_append_own_none hgd s x t ho base e i 1 ht hi v n xs hs hown hx (h v w (by simpa using hown) ?_)
  exact ⟨rfl,rfl,rfl,Nat.le_refl _,fun _ _ _=>rfl⟩
 ·refine wpList_append_own _ hgd s x t ho base e i z 1 bytes ht hi hz hsize hby hzs (by omega) v n xs hs hown ⟨g,0,none⟩ m cap news hx hrow.1 (fun j u hj=>?_) h1 h63 hbytes hbase (fun v' w' h2 h3 _=>h v' w' h2 h3)
  have hj':=(List.getElem?_eq_some_iff.1 hj).1
  have hl:=hrow.1
  have hadd:(⟨g,0,none⟩:Addr).add j=⟨g,j,none⟩:=by unfold Addr.add;split <;> simp_all
  rw [hadd,hrow.cellAt j (by omega),hj]

theorem wpB_append {w:World} {ops:Array Oper} {rest:List Oper} {o:Oper} {a:Act} {Q:Exit → Act → World → Prop} (hgd:o.guard=none) (s x:Operand)
  (ho:o.op=.call { callee:=.builtin .append,args:=#[s,x],argTypes:=#[37,37] })
  (base b2:Nat) (v xv:Value) (bs cs:List Int) (hs:a.eval s=v) (hx:a.eval x=xv) (hown:BsRow base w v bs) (hrow:BsRow b2 w xv cs) (hl:bs.length + cs.length ≤ 140737488355328) (hbase:base ≤ w.heap.size)
  (h:∀ v' w',BsRow base w' v' (bs ++ cs) → w.grownBy w' v.ownBlock → wpList Tryz.prog ops Q rest (a.put o.dst v') w'):wpList Tryz.prog ops Q (o :: rest) a w:=by
 obtain ⟨i,hi,hz0,hz1,hz2⟩:=info_parts info_byte
 refine wpB_row hgd s x 37 ho base b2 5 i (.int .u8 0) 1 Tryz.underlying37 hi hz0 hz1 hz2 rfl v bs.length (byteVs bs) hs hown xv cs.length (byteVs cs) hx hrow (byteVs_one cs) (by unfold maxLen;omega) (by omega) hbase (fun v' w' h2 h3=>h v' w' ?_ h3)
 unfold BsRow
 rw [byteVs_append,List.length_append]
 exact h2

theorem wpB_append_op {o:Oper} {a:Act} {w:World} {K:Act → World → Prop} {Q:Exit → Act → World → Prop} (s x:Operand)
  (ho:o.op=.call { callee:=.builtin .append,args:=#[s,x],argTypes:=#[37,37] })
  (base b2:Nat) (v xv:Value) (bs cs:List Int) (hs:a.eval s=v) (hx:a.eval x=xv) (hown:BsRow base w v bs) (hrow:BsRow b2 w xv cs) (hpos:0 < cs.length) (hl:bs.length + cs.length ≤ 140737488355328) (hbase:base ≤ w.heap.size)
  (h:∀ v' w',BsRow base w' v' (bs ++ cs) → w.grownBy w' v.ownBlock → K (a.put o.dst v') w'):o.wp Tryz.prog a w K Q:=by
 obtain ⟨i,hi,hz0,hz1,hz2⟩:=info_parts info_byte
 obtain ⟨g,cap,rfl⟩:=owns_shape hrow hpos
 refine wp_append_fresh s x 37 ho base 5 i (.int .u8 0) 1 1 Tryz.underlying37 hi hz0 hz1 hz2 rfl (by decide) v bs.length (byteVs bs) hs hown ⟨g,0,none⟩ cs.length cap (byteVs cs) hx (by rw [byteVs_len,Nat.mul_one]) (World.ownsRow.cells hrow (g:=g) rfl) (byteVs_one cs) (by unfold maxLen;omega) (by omega) hbase (fun v' w' h2 h3 _=>h v' w' ?_ h3)
 unfold BsRow
 rw [byteVs_append,List.length_append]
 exact h2

theorem BsRow.other {base:Nat} {w:World} {v:Value} {bs:List Int} (h:BsRow base w v bs) {k:Nat} {cs:Array Value} {t:TypeId} {q:Nat × Nat} (hk:w.heap[k]?=some (.cells cs t q)) (ht:t ≠ 5):v.ownBlock ≠ some k:=fun e=>by
 obtain ⟨⟨cs',hc⟩,_⟩:=h.blk e
 rw [hk] at hc
 cases hc
 exact ht rfl

theorem perm_of_sub:∀ (R ps:List Int),R.Nodup → (∀ x ∈ R,x ∈ ps) → ps.length ≤ R.length → ps.Perm R:=by
 intro R
 induction R with
 | nil=>
  intro ps _ _ hl
  rw [List.length_nil,Nat.le_zero,List.length_eq_zero_iff] at hl
  rw [hl]
 | cons x R ih=>
  intro ps hn hs hl
  rw [List.nodup_cons] at hn
  have hx:=hs x (by simp)
  have hp:=List.perm_cons_erase hx
  refine hp.trans (List.Perm.cons x (ih _ hn.2 (fun y hy=>?_) ?_))
  ·have hyx:y ≠ x:=fun e=>hn.1 (e ▸ hy)
   exact (List.mem_erase_of_ne hyx).2 (hs y (by simp [hy]))
  ·have:=hp.length_eq
   simp at this hl
   omega

def numsI (n:Nat):List Int:=(List.range n).map (fun i:Nat=>(i:Int))

theorem numsI_len (n:Nat):(numsI n).length=n:=by unfold numsI;simp

theorem mem_numsI {n:Nat} {x:Int}:x ∈ numsI n ↔ 0 ≤ x ∧ x < (n:Int):=by
 unfold numsI
 rw [List.mem_map]
 constructor
 ·rintro ⟨a,ha,rfl⟩
  rw [List.mem_range] at ha
  omega
 ·intro h
  exact ⟨x.toNat,by rw [List.mem_range];omega,by omega⟩

theorem nodup_numsI (n:Nat):(numsI n).Nodup:=by
 unfold numsI
 exact List.Pairwise.map _ (fun a b (h:a ≠ b) e=>h (by omega)) List.nodup_range

theorem permB_perm {ps:List Int}:permB ps=true ↔ (ps.length ≤ 16 ∧ ps.Perm (numsI ps.length)):=by
 rw [permB_iff]
 constructor
 ·rintro ⟨h1,h2,h3⟩
  exact ⟨h1,(perm_of_sub ps (numsI ps.length) h3 (fun x hx=>mem_numsI.2 (h2 x hx)) (by rw [numsI_len];omega)).symm⟩
 ·rintro ⟨h1,h2⟩
  exact ⟨h1,fun x hx=>mem_numsI.1 (h2.mem_iff.1 hx),h2.nodup_iff.2 (nodup_numsI _)⟩

theorem permB_count {ps:List Int} (h16:ps.length ≤ 16):permB ps=true ↔ ∀ i:Nat,i < ps.length → ps.count (i:Int)=1:=by
 rw [permB_perm]
 constructor
 ·rintro ⟨_,h⟩ i hi
  rw [h.count_eq,(nodup_numsI _).count,if_pos (mem_numsI.2 (by omega))]
 ·intro h
  refine ⟨h16,perm_of_sub _ _ (nodup_numsI _) (fun x hx=>?_) (by rw [numsI_len];omega)⟩
  obtain ⟨h0,h1⟩:=mem_numsI.1 hx
  have:=h x.toNat (by omega)
  rw [show ((x.toNat:Nat):Int)=x by omega] at this
  exact List.count_pos_iff.1 (by omega)

set_option maxRecDepth 100000 in
theorem refRight_calls (a:Option Addr) (cap:Nat) (ps:List Int) (w:World) (h:IntsAt w a ps) (hl:ps.length ≤ 16) :
  Calls Tryz.prog 20 #[.slice a ps.length cap] w fun e w'=>e=.returned (.bool (permB ps)) ∧ w=w':=by
 have hcnt:=permB_count hl
 obtain ⟨N,hN⟩:∃ N,N=ps.length:=⟨_,rfl⟩
 rw [← hN] at hl hcnt ⊢
 have H:=Lib.hid h
 have HN:=Lib.hid hN
 have HC:=Lib.hid hcnt
 clear h hN hcnt
 go_enter Tryz.func20,Tryz.ntmps20
 go_wp2
 go_loopg [3,4,5] N (fun gk s3 s4 s5 wr=>∃ (d:Nat),s3=.int .i64 (d:Int) ∧ d + gk=N ∧ (∀ i:Nat,i < d → ps.count (i:Int)=1) ∧ w=wr)
 case atStart=>exact ⟨0,rfl,by omega,fun i hi=>by omega,rfl⟩
 case round=>
  obtain ⟨d,rfl,hd,hall,rfl⟩:=hrel
  have HALL:=Lib.hid hall
  obtain ⟨g0,hg0⟩:∃ g,g=gk:=⟨_,rfl⟩
  have HG0:=Lib.hid hg0
  clear hall hg0
  by_cases hlt:d < N
  ·go_wp2_with fail
   go_loopg [4,5] N (fun gk s4 s5 wi=>∃ (j c:Nat),s5=.int .i64 (j:Int) ∧ s4=.int .i64 (c:Int) ∧ j + gk=N ∧ c=(ps.take j).count (d:Int) ∧ c ≤ j ∧ w=wi)
   case atStart=>exact ⟨0,0,rfl,rfl,by omega,by simp,by omega,rfl⟩
   case round=>
    obtain ⟨j,c,rfl,rfl,hj,hcc,hcj,rfl⟩:=hrel
    have HCC:=Lib.hid hcc
    clear hcc
    by_cases hjl:j < N
    ·obtain ⟨x,hx⟩:∃ b,ps[j]?=some b:=⟨_,List.getElem?_eq_getElem (by rw [← HN.out];exact hjl)⟩
     obtain ⟨b,off,rfl,hc⟩:=H.out j x hx
     have ht:=take_snoc hx
     have HT:=Lib.hid ht
     clear hx ht
     by_cases hxd:x=(d:Int)
     ·subst hxd
      go_wp2_with fail
      go_roundg (gk - 1)
      case rel=>exact ⟨j + 1,c + 1,by simp,by simp,by omega,by rw [HT.out,List.count_append,HCC.out];simp,by omega,rfl⟩
      case measure=>omega
     ·go_wp2_with fail
      go_roundg (gk - 1)
      case rel=>exact ⟨j + 1,c,by simp,rfl,by omega,by rw [HT.out,List.count_append,HCC.out];simp [hxd],by omega,rfl⟩
      case measure=>omega
    ·have hcp:c=ps.count (d:Int):=by
      rw [HCC.out,List.take_of_length_le (by rw [← HN.out];omega)]
     have HCP:=Lib.hid hcp
     clear hcp
     by_cases h1:c=1
     ·subst h1
      have hall:∀ i:Nat,i < d + 1 → ps.count (i:Int)=1:=fun i hi=>by
       by_cases e:i=d
       ·subst e;exact HCP.out.symm
       ·exact HALL.out i (by omega)
      have HALL2:=Lib.hid hall
      clear hall
      go_wp2_with fail
      go_roundg (g0 - 1)
      case rel=>exact ⟨d + 1,by simp,by have:=HG0.out;omega,HALL2.out,rfl⟩
      case measure=>have:=HG0.out;omega
     ·have hf:permB ps=false:=by
       cases hb:permB ps with
       | false=>rfl
       | true=>have:=HC.out.1 hb d hlt;have:=HCP.out;omega
      have HF:=Lib.hid hf
      have g1:((c:Int) != 1)=true:=by simp;omega
      clear hf
      go_wp2_with fail
      go_ret
      exact ⟨by rw [HF.out];rfl,rfl⟩
  ·have ht:permB ps=true:=HC.out.2 (fun i hi=>HALL.out i (by omega))
   have HT:=Lib.hid ht
   clear ht
   go_wp2_with fail
   go_ret
   exact ⟨by rw [HT.out];simp;omega,rfl⟩

end Go.Proofs.YtiifimnpmbfihaaGreat
