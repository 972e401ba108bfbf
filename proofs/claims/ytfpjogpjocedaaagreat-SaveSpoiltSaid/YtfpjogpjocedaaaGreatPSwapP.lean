/-
  The walk of convert.from: an edge to nothing, at the end, or kept.
-/
import Derived.Test.YtfpjogpjocedaaaGreatPMeansA
import Derived.Maps.Views
import Derived.Maps.OwnSet
import Derived.Maps.Keyed
import Derived.DeepKeys4
namespace Go.Proofs.YtfpjogpjocedaaaGreat
set_option linter.unusedSimpArgs false
set_option linter.unusedVariables false
set_option maxHeartbeats 600000
open Go.RowKit

theorem Upd.later {F G:Nat → Prop} {a b c:World} (h:Upd F a b) (k:Upd G b c) (hG:∀ i,i < a.heap.size → G i → F i):Upd F a c:=
 ⟨k.os.trans h.os,k.tape.trans h.tape,k.output.trans h.output,Nat.le_trans h.size k.size,fun i hi hf=>(k.block i (Nat.lt_of_lt_of_le hi h.size) (fun hg=>hf (hG i hi hg))).trans (h.block i hi hf)⟩

section
variable {F:Nat → Prop} {w:World} {sb wb b:Nat} {f g:Int} {M:St} {V:List (Edge × Int)} {D:DataW Unit}

theorem updR {R:Nat} {x y:World} (h:Upd (fun j=>j=R) x y) (o:Nat) (v:Value):Upd (fun j=>j=R) x (y.setCell ⟨R,o,none⟩ v):=h.setCell (Or.inl rfl) v

theorem findSt_ext {M:St} (h:M.wf) (r:Rec):Ext M (M.findSt r):=by
 cases hi:M.idOf r with
 | some id=>
  rw [(find_old h (idOf_look hi)).2.2]
  exact Ext.refl M
 | none=>
  cases hb:M.bad r with
  | true=>
   have:M.findSt r=M:=by unfold St.findSt;rw [hi];simp [hb]
   rw [this]
   exact Ext.refl M
  | false=>
   by_cases he:M.findErr r=0
   ·exact (find_zero h hb he).2.1
   ·rw [(find_full hb he).2.1]
    exact Ext.refl M

end

def St.solid (M:St):Prop:=M.gone=[] ∧ ∀ o ∈ M.cs,o ≠ none

theorem solid_find {M:St} (h:M.solid) (r:Rec):(M.findSt r).solid:=by
 unfold St.findSt
 cases M.idOf r with
 | some id=>exact h
 | none=>
  simp only []
  split
  ·exact h
  ·split
   ·exact h
   ·refine ⟨by show M.gone.dropLast=[];rw [h.1];rfl,fun o ho=>?_⟩
    change o ∈ putCs M.cs M.gone r at ho
    unfold putCs at ho
    rw [h.1] at ho
    simp only [List.getLast?_nil] at ho
    rcases List.mem_append.1 ho with ho | ho
    ·exact h.2 o ho
    ·rw [List.mem_singleton] at ho
     subst ho
     simp

theorem solid_act {M:St} (h:M.solid) (a:(Edge × Int) ⊕ Rec):(actSt M a).solid:=by
 cases a with
 | inl x=>exact h
 | inr r=>exact solid_find h r

open Go Go.RowKit

theorem xor_u8 {x y:Int} (hx:0 ≤ x ∧ x ≤ 255) (hy:0 ≤ y ∧ y ≤ 255):0 ≤ bits BinOp.xor IntKind.u8 x y ∧ bits BinOp.xor IntKind.u8 x y ≤ 255:=by
 have key:∀ a b:Fin 256,0 ≤ bits BinOp.xor IntKind.u8 ((a.val:Nat):Int) ((b.val:Nat):Int) ∧ bits BinOp.xor IntKind.u8 ((a.val:Nat):Int) ((b.val:Nat):Int) ≤ 255:=by decide +kernel
 have:=key ⟨x.toNat,by omega⟩ ⟨y.toNat,by omega⟩
 have e1:((x.toNat:Nat):Int)=x:=by omega
 have e2:((y.toNat:Nat):Int)=y:=by omega
 simp only [e1,e2] at this
 exact this

theorem BsRow.shape {base:Nat} {w:World} {v:Value} {bs:List Int} (h:BsRow base w v bs) (hp:0 < bs.length):∃ g cap,v=.slice (some ⟨g,0,none⟩) bs.length cap ∧ base ≤ g ∧ bs.length ≤ cap ∧ g < w.heap.size:=by
 rcases h.2 with ⟨_,hn⟩ | ⟨g,cap,cur,h0,hb,hg,hnc,_⟩
 ·omega
 ·exact ⟨g,cap,h0,hb,hnc,lt_of_heap hg⟩

theorem BsRow.byte {base:Nat} {w:World} {g cap:Nat} {bs:List Int} (h:BsRow base w (.slice (some ⟨g,0,none⟩) bs.length cap) bs) {i:Nat} {x:Int} (hx:bs[i]?=some x):w.cell? ⟨g,i,none⟩=some (.int .u8 x) ∧ w.frozen? ⟨g,i,none⟩=false:=by
 have hi:=(List.getElem?_eq_some_iff.1 hx).1
 rcases h.2 with ⟨h0,_⟩ | ⟨g',cap',cur,h0,hb,hg,_⟩
 ·cases h0
 ·cases h0
  refine ⟨?_,frozen_of_row w g i _ _ hg⟩
  have h2:=World.ownsRow.cellAt h (j:=i) (by omega)
  rw [h2]
  unfold byteVs
  rw [List.getElem?_map,hx]
  rfl

theorem BsRow.set {base:Nat} {w:World} {g cap:Nat} {bs:List Int} (h:BsRow base w (.slice (some ⟨g,0,none⟩) bs.length cap) bs) (i:Nat) (y:Int):BsRow base (w.setCell ⟨g,i,none⟩ (.int .u8 y)) (.slice (some ⟨g,0,none⟩) (bs.set i y).length cap) (bs.set i y):=by
 rcases h.2 with ⟨h0,_⟩ | ⟨g',cap',cur,h0,hb,hg,hnc,hcm,hcs,ht⟩
 ·cases h0
 ·cases h0
  refine ⟨by rw [byteVs_len,Nat.mul_one],.inr ⟨g,cap,_,rfl,hb,Go.heap_setCell_same w g i _ _ (.int .u8 y) hg,by rw [List.length_set];exact hnc,hcm,by rw [Array.size_setIfInBounds];exact hcs,?_⟩⟩
  rw [List.length_set,Array.toList_setIfInBounds,List.take_set,ht]
  unfold byteVs
  rw [List.map_set]

theorem BsRow.take {base:Nat} {w:World} {g cap:Nat} {bs:List Int} (h:BsRow base w (.slice (some ⟨g,0,none⟩) bs.length cap) bs) {k:Nat} (hk:k ≤ bs.length):BsRow base w (.slice (some ⟨g,0,none⟩) k cap) (bs.take k):=by
 have hl:(bs.take k).length=k:=by rw [List.length_take];omega
 rcases h.2 with ⟨h0,_⟩ | ⟨g',cap',cur,h0,hb,hg,hnc,hcm,hcs,ht⟩
 ·cases h0
 ·cases h0
  refine ⟨by rw [byteVs_len,Nat.mul_one],.inr ⟨g,cap,cur,by rw [hl],hb,hg,by omega,hcm,hcs,?_⟩⟩
  rw [hl,Nat.mul_one]
  have h2:=congrArg (List.take k) ht
  rw [List.take_take,Nat.mul_one,Nat.min_eq_left hk] at h2
  rw [h2]
  unfold byteVs
  rw [List.map_take]

theorem owns_noneB (w:World) (base:Nat) (hb:base ≤ w.heap.size):BsRow base (w.alloc (.cells #[] 5)) (.slice (some ⟨w.heap.size,0,none⟩) 0 0) []:=
 ⟨rfl,.inr ⟨w.heap.size,0,#[],rfl,hb,heap_alloc_new w _,Nat.le_refl _,by unfold maxLen;omega,rfl,rfl⟩⟩

theorem isBs_set {bs:List Int} (h:IsBs bs) (i:Nat) {y:Int} (hy:0 ≤ y ∧ y ≤ 255):IsBs (bs.set i y):=fun x hx=>by
 rcases List.mem_or_eq_of_mem_set hx with hx | rfl
 ·exact h x hx
 ·exact hy

theorem isBs_take {bs:List Int} (h:IsBs bs) (k:Nat):IsBs (bs.take k):=fun x hx=>h x (List.mem_of_mem_take hx)

theorem wpB_at {w:World} {ops:Array Oper} {rest:List Oper} {o:Oper} {a:Act} {Q:Exit → Act → World → Prop} (hgd:o.guard=none) (s x:Operand)
  (ho:o.op=.call { callee:=.builtin .append,args:=#[s,x],argTypes:=#[24,24] })
  (base:Nat) (v:Value) (bs cs:List Int) (a7:Option Addr) (cap7:Nat) (hs:a.eval s=v) (hx:a.eval x=.slice a7 cs.length cap7) (hown:BsRow base w v bs) (hrow:BsAt w a7 cs) (hnil:a7=none → cap7=0) (hl:bs.length + cs.length ≤ 140737488355328) (hbase:base ≤ w.heap.size)
  (h:∀ v' w',BsRow base w' v' (bs ++ cs) → w.grownBy w' v.ownBlock → wpList Tryz.prog ops Q rest (a.put o.dst v') w'):wpList Tryz.prog ops Q (o :: rest) a w:=by
 obtain ⟨i,hi,hz0,hz1,hz2⟩:=info_parts info_byte
 have key:∀ v' w',w'.ownsRow base 5 1 v' (bs.length + cs.length) (byteVs bs ++ byteVs cs) → BsRow base w' v' (bs ++ cs):=fun v' w' h2=>by
  unfold BsRow
  rw [byteVs_append,List.length_append]
  exact h2
 cases a7 with
 | none=>
  have hc:cs=[]:=by
   cases cs with
   | nil=>rfl
   | cons y ys=>obtain ⟨b,off,h1,_⟩:=hrow 0 y rfl;cases h1
  subst hc
  have hc7:=hnil rfl
  subst hc7
  refine wpList_append_own_none hgd s x 24 ho base 5 i 1 Tryz.underlying24 hi v bs.length (byteVs bs) hs hown hx (h v w (by rw [List.append_nil];exact hown) ⟨rfl,rfl,rfl,Nat.le_refl _,fun _ _ _=>rfl⟩)
 | some ad=>
  refine wpList_append_fresh hgd s x 24 ho base 5 i (.int .u8 0) 1 1 Tryz.underlying24 hi hz0 hz1 hz2 rfl (by decide) v bs.length (byteVs bs) hs hown ad cs.length cap7 (byteVs cs) hx (by rw [byteVs_len,Nat.mul_one]) (fun j u hj=>?_) (byteVs_one cs) (by unfold maxLen;omega) (by omega) hbase (fun v' w' h2 h3 _=>h v' w' (key v' w' h2) h3)
  unfold byteVs at hj
  rw [List.getElem?_map] at hj
  cases hc:cs[j]? with
  | none=>rw [hc] at hj;cases hj
  | some z=>
   rw [hc] at hj
   obtain ⟨b,off,h1,h2⟩:=hrow j z hc
   cases h1
   have hadd:(⟨b,off,none⟩:Addr).add j=⟨b,off + j,none⟩:=by unfold Addr.add;split <;> simp_all
   rw [hadd,h2]
   exact hj

end Go.Proofs.YtfpjogpjocedaaaGreat
