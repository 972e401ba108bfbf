/-
  Rows of bytes of one's own, appended to; ramageref04.Bytes, ramageref04.Same.
-/
import Derived.Test.YtiifimnpmbfihaaGreatPWireW
import Derived.BigRegion
import Derived.Laws.AppendOwnNone
namespace Go.Proofs.YtiifimnpmbfihaaGreat
set_option linter.unusedSimpArgs false
set_option linter.unusedVariables false
set_option maxHeartbeats 600000
open Go.RowKit

def BsRow (base:Nat) (w:World) (v:Value) (bs:List Int):Prop:=w.ownsRow base 5 1 v bs.length (byteVs bs)

def BsAt (w:World) (a:Option Addr) (bs:List Int):Prop:=∀ i x,bs[i]?=some x → ∃ b off,a=some ⟨b,off,none⟩ ∧ w.cell? ⟨b,off + i,none⟩=some (.int .u8 x)

theorem BsAt.keeps {w w':World} {a:Option Addr} {bs:List Int} (h:BsAt w a bs) (hk:Keeps w w'):BsAt w' a bs:=fun i x hx=>by
 obtain ⟨b,off,ha,hc⟩:=h i x hx
 exact ⟨b,off,ha,hk.cell hc⟩

theorem BsRow.keeps {base:Nat} {w w':World} {v:Value} {bs:List Int} (h:BsRow base w v bs) (hk:Keeps w w'):BsRow base w' v bs:=hk.owns h

theorem BsRow.slice {base:Nat} {w:World} {v:Value} {bs:List Int} (h:BsRow base w v bs):∃ a cap,v=.slice a bs.length cap ∧ BsAt w a bs:=by
 rcases h.2 with ⟨h0,hn⟩ | ⟨g,cap,cur,h0,hb,hg,hnc,hcm,hcs,htake⟩
 ·refine ⟨none,0,by rw [h0,hn],fun i x hx=>?_⟩
  have:=(List.getElem?_eq_some_iff.1 hx).1
  omega
 ·refine ⟨some ⟨g,0,none⟩,cap,h0,fun i x hx=>⟨g,0,rfl,?_⟩⟩
  have hi:=(List.getElem?_eq_some_iff.1 hx).1
  rw [h0] at h
  have h2:=World.ownsRow.cellAt h (j:=i) (by omega)
  rw [Nat.zero_add,h2]
  unfold byteVs
  rw [List.getElem?_map,hx]
  rfl

def IsBlk (w:World) (t:TypeId) (k:Nat):Prop:=∃ cs,w.heap[k]?=some (.cells cs t (0,0))

theorem BsRow.blk {base:Nat} {w:World} {v:Value} {bs:List Int} (h:BsRow base w v bs) {k:Nat} (hk:v.ownBlock=some k):IsBlk w 5 k ∧ base ≤ k:=by
 obtain ⟨cs,hc⟩:=owns_type h hk
 exact ⟨⟨cs,hc⟩,row_from h hk⟩

theorem BsRow.nil (base:Nat) (w:World):BsRow base w (.slice none 0 0) []:=World.ownsRow_nil _ _ _ _

theorem wpB_append_op {o:Oper} {a:Act} {w:World} {K:Act → World → Prop} {Q:Exit → Act → World → Prop} (s x:Operand)
  (ho:o.op=.call { callee:=.builtin .append,args:=#[s,x],argTypes:=#[37,37] })
  (base b2:Nat) (v xv:Value) (bs cs:List Int) (hs:a.eval s=v) (hx:a.eval x=xv) (hown:BsRow base w v bs) (hrow:BsRow b2 w xv cs) (hpos:0 < cs.length) (hl:bs.length + cs.length ≤ 140737488355328) (hbase:base ≤ w.heap.size)
  (h:∀ v' w',BsRow base w' v' (bs ++ cs) → w.grownBy w' v.ownBlock → K (a.put o.dst v') w'):o.wp Tryz.prog a w K Q:=by
 obtain ⟨i,hi,hz0,hz1,hz2⟩:=info_parts info_byte
 obtain ⟨g,cap,rfl⟩:=owns_shape hrow hpos
 refine wp_append_fresh s x 37 ho base 5 i (.int .u8 0) 1 1 Tryz.underlying37 hi hz0 hz1 hz2 rfl (by decide) v bs.length (byteVs bs) hs hown ⟨g,0,none⟩ cs.length cap (byteVs cs) hx (by rw [byteVs_len,Nat.mul_one]) (World.ownsRow.cells hrow (g:=g) rfl) (byteVs_one cs) (by unfold maxLen;omega) (by omega) hbase (fun v' w' h2 h3 _=>h v' w' ?_ h3)
 unfold BsRow
 rw [byteVs_append,List.length_append]
 exact h2

theorem BsRow.other {base:Nat} {w:World} {v:Value} {bs:List Int} (h:BsRow base w v bs) {k:Nat} {cs:Array Value} {t:TypeId} {q:Nat × Nat} (hk:w.heap[k]?=some (.cells cs t q)) (ht:t ≠ 5):v.ownBlock ≠ some k:=fun e=>by
 obtain ⟨⟨cs',hc⟩,_⟩:=h.blk e
 rw [hk] at hc
 cases hc
 exact ht rfl

end Go.Proofs.YtiifimnpmbfihaaGreat
