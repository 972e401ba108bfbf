/-
  A row of bools of the call's own; which ids of the document's list are marked.
-/
import Derived.Test.YtpgcbmbnognieaaGreatPReachA
import Derived.Test.YtpgcbmbnognieaaGreatPVBase
import Derived.Laws.OwnMore
namespace Go.Proofs.YtpgcbmbnognieaaGreat
set_option linter.unusedSimpArgs false
set_option linter.unusedVariables false
set_option maxHeartbeats 600000
open Go.RowKit

def BoolsAt (w:World) (blk:Nat) (bs:List Bool):Prop:=w.heap[blk]?=some (.cells (bs.map Value.bool).toArray 4 (0,0))

theorem BoolsAt.cell {w:World} {blk:Nat} {bs:List Bool} (h:BoolsAt w blk bs) {i:Nat} {b:Bool} (hb:bs[i]?=some b):w.cell? ⟨blk,i,none⟩=some (.bool b):=by
 rw [cell_of_row w blk i _ _ _ h]
 simp [hb]

theorem BoolsAt.frozen {w:World} {blk:Nat} {bs:List Bool} (h:BoolsAt w blk bs) (i:Nat):w.frozen? ⟨blk,i,none⟩=false:=frozen_of_row w blk i _ _ h

theorem BoolsAt.lt {w:World} {blk:Nat} {bs:List Bool} (h:BoolsAt w blk bs):blk < w.heap.size:=lt_of_heap h

theorem BoolsAt.keep {G:Nat → Prop} {w w':World} {blk:Nat} {bs:List Bool} (h:BoolsAt w blk bs) (hu:Upd G w w') (hg:¬ G blk):BoolsAt w' blk bs:=(hu.block blk h.lt hg).trans h

theorem BoolsAt.set {w:World} {blk:Nat} {bs:List Bool} (h:BoolsAt w blk bs) (i:Nat) (b:Bool):BoolsAt (w.setCell ⟨blk,i,none⟩ (.bool b)) blk (bs.set i b):=by
 have e:=Go.heap_setCell_same w blk i _ _ (.bool b) h
 unfold BoolsAt
 rw [e]
 simp [List.map_set]

theorem bools_made {w:World} {blk n:Nat} (h:w.ownsRow blk 4 1 (.slice (some ⟨blk,0,none⟩) n n) n (madeCells (Value.bool false).cells (n * 1)).toList):BoolsAt w blk (List.replicate n false):=by
 obtain ⟨cur,hcur⟩:=owns_type h (k:=blk) rfl
 rcases h.2 with ⟨h0,_⟩ | ⟨g,cap,cur',hv,_,hg,_,_,hs,ht⟩
 ·cases h0
 ·cases hv
  unfold BoolsAt
  rw [hg]
  have e1:(madeCells (Value.bool false).cells (n * 1)).toList=List.replicate n (Value.bool false):=by
   show (madeCells #[Value.bool false] (n * 1)).toList=_
   rw [toList_madeCells_one,Nat.mul_one]
  rw [e1] at ht
  have e2:cur'.toList=List.replicate n (Value.bool false):=by
   rw [← ht,List.take_of_length_le (by simp;omega)]
  congr 2
  rw [List.map_replicate,← e2]

def blanks (bs:List Bool):Nat:=bs.countP (fun b=>!b)

theorem blanks_set {bs:List Bool} {i:Nat} (h:bs[i]?=some false):blanks (bs.set i true) + 1=blanks bs:=by
 have hi:=(List.getElem?_eq_some_iff.1 h).1
 have he:=(List.getElem?_eq_some_iff.1 h).2
 unfold blanks
 rw [List.countP_set hi,he]
 have:0 < List.countP (fun b=>!b) bs:=List.countP_pos_iff.2 ⟨false,by rw [← he];exact List.getElem_mem hi,rfl⟩
 simp
 omega

theorem blanks_le (bs:List Bool):blanks bs ≤ bs.length:=List.countP_le_length

structure Marked (cs:List (Option Rec)) (roots:List Int) (L:List (Int × Rec)) (bs:List Bool):Prop where
 len:bs.length=L.length
 from':∀ (i:Nat) (p:Int × Rec),L[i]?=some p → bs[i]?=some true → Reaches cs roots p.1
 has:∀ (id:Int) (D:Nat),id ∈ roots → atI L id=(D:Int) → bs[D]?=some true

theorem set_true {bs:List Bool} {i j:Nat} (h:(bs.set i true)[j]?=some true):j=i ∨ bs[j]?=some true:=by
 rw [List.getElem?_set] at h
 split at h
 ·exact .inl (by omega)
 ·exact .inr h

theorem true_set {bs:List Bool} {i j:Nat} (h:bs[j]?=some true):(bs.set i true)[j]?=some true:=by
 have hj:=(List.getElem?_eq_some_iff.1 h).1
 rw [List.getElem?_set]
 split
 ·simp;omega
 ·exact h

theorem Marked.mark {cs:List (Option Rec)} {roots:List Int} {L:List (Int × Rec)} {bs:List Bool} (h:Marked cs roots L bs) {i:Nat} {p:Int × Rec} (hp:L[i]?=some p) (hr:Reaches cs roots p.1):Marked cs roots L (bs.set i true):=by
 refine ⟨by simp [h.len],fun j q hq hj=>?_,fun id D hid hD=>true_set (h.has id D hid hD)⟩
 rcases set_true hj with rfl | hj
 ·rw [hp] at hq;cases hq;exact hr
 ·exact h.from' j q hq hj

theorem Marked.root {cs:List (Option Rec)} {roots:List Int} {L:List (Int × Rec)} {bs:List Bool} (h:Marked cs roots L bs) {x:Int} {D:Nat} {r:Rec} (hD:atI L x=(D:Int)) (hL:L[D]?=some (x,r)) (hl:look cs x ≠ none) :
  Marked cs (roots ++ [x]) L (bs.set D true):=by
 have hlt:=(List.getElem?_eq_some_iff.1 hL).1
 refine ⟨by simp [h.len],fun j q hq hj=>?_,fun id D' hid hD'=>?_⟩
 ·rcases set_true hj with rfl | hj
  ·rw [hL] at hq;cases hq;exact Reaches.root (by simp) hl
  ·exact (h.from' j q hq hj).mono (fun y hy=>List.mem_append_left _ hy)
 ·rcases List.mem_append.1 hid with hid | hid
  ·exact true_set (h.has id D' hid hD')
  ·rw [List.mem_singleton] at hid
   subst hid
   obtain rfl:D'=D:=by omega
   rw [List.getElem?_set]
   simp [h.len,hlt]

theorem Marked.miss {cs:List (Option Rec)} {roots:List Int} {L:List (Int × Rec)} {bs:List Bool} (h:Marked cs roots L bs) {x:Int} (hD:atI L x=-1):Marked cs (roots ++ [x]) L bs:=by
 refine ⟨h.len,fun j q hq hj=>(h.from' j q hq hj).mono (fun y hy=>List.mem_append_left _ hy),fun id D' hid hD'=>?_⟩
 rcases List.mem_append.1 hid with hid | hid
 ·exact h.has id D' hid hD'
 ·rw [List.mem_singleton] at hid
  subst hid
  omega

theorem Marked.child {cs:List (Option Rec)} {roots:List Int} {L:List (Int × Rec)} {bs:List Bool} (h:Marked cs roots L bs) {d D:Nat} {p:Int × Rec} {c:Int} {r':Rec} (hd:L[d]?=some p) (hb:bs[d]?=some true) (hlp:look cs p.1=some p.2)
  (hc:c=p.2.lo.to ∨ c=p.2.hi.to) (hL:L[D]?=some (c,r')) (hlc:look cs c=some r'):Marked cs roots L (bs.set D true):=by
 refine h.mark hL ?_
 have hp:=h.from' d p hd hb
 have:=Reaches.closed cs roots p.1 p.2 hp hlp
 rcases hc with rfl | rfl
 ·exact this.1 (by rw [hlc];simp)
 ·exact this.2 (by rw [hlc];simp)

theorem Marked.start (cs:List (Option Rec)) (L:List (Int × Rec)):Marked cs [] L (List.replicate L.length false):=by
 refine ⟨by simp,fun j q _ hj=>?_,fun id D' hid _=>by simp at hid⟩
 rw [List.getElem?_replicate] at hj
 split at hj <;> cases hj

def ShutTo (L:List (Int × Rec)) (bs:List Bool) (k:Nat):Prop:=
 ∀ (i:Nat) (p:Int × Rec),i < k → L[i]?=some p → bs[i]?=some true → (∀ D:Nat,atI L p.2.lo.to=(D:Int) → bs[D]?=some true) ∧ (∀ D:Nat,atI L p.2.hi.to=(D:Int) → bs[D]?=some true)

theorem Marked.iff {F:Nat → Prop} {w:World} {mb:Nat} {M:St} {L:List (Int × Rec)} (hR:RefRep F w mb M L) {roots:List Int} {bs:List Bool} (h:Marked M.cs roots L bs) (hs:ShutTo L bs L.length)
  {id:Int} {D:Nat} (hD:atI L id=(D:Int)):bs[D]?=some true ↔ Reaches M.cs roots id:=by
 -- the place of an id holds it
 have place:∀ (id:Int) (D:Nat),atI L id=(D:Int) → ∃ r,look M.cs id=some r ∧ L[D]?=some (id,r):=by
  intro id D hD
  rcases atI_look hR id with ⟨r,hl,D',hLD,_,_,hat⟩ | ⟨_,_,hat⟩
  ·rw [hat] at hD
   obtain rfl:D'=D:=by omega
   exact ⟨r,hl,hLD⟩
  ·rw [hat] at hD;omega
 have at':∀ id,look M.cs id ≠ none → ∃ D:Nat,atI L id=(D:Int):=by
  intro id hl
  rcases atI_look hR id with ⟨r,_,D',_,_,_,hat⟩ | ⟨hn,_,_⟩
  ·exact ⟨D',hat⟩
  ·exact absurd hn hl
 constructor
 ·intro hb
  obtain ⟨r,_,hLD⟩:=place id D hD
  exact h.from' D _ hLD hb
 ·intro hr
  have key:=hr (fun x=>∀ D:Nat,atI L x=(D:Int) → bs[D]?=some true) (fun e he hl D hD=>h.has e D he hD) (fun x r hx hl=>by
   obtain ⟨X,hX⟩:=at' x (by rw [hl];simp)
   obtain ⟨r',hl',hLX⟩:=place x X hX
   rw [hl] at hl'
   cases hl'
   have hlt:=(List.getElem?_eq_some_iff.1 hLX).1
   have:=hs X _ hlt hLX (hx X hX)
   exact ⟨fun _=>this.1,fun _=>this.2⟩)
  exact key D hD

noncomputable def reachB (cs:List (Option Rec)) (roots:List Int) (id:Int):Bool:=@decide (Reaches cs roots id) (Classical.propDecidable _)

theorem reachB_iff {cs:List (Option Rec)} {roots:List Int} {id:Int}:reachB cs roots id=true ↔ Reaches cs roots id:=by
 unfold reachB
 exact @decide_eq_true_iff _ (Classical.propDecidable _)

noncomputable def reachTo (cs:List (Option Rec)) (roots:List Int) (k:Nat):List Int:=((List.range k).map (fun i:Nat=>(i:Int) + 2)).filter (reachB cs roots)

theorem reachTo_in {cs:List (Option Rec)} {roots:List Int} {k:Nat} (h:Reaches cs roots ((k:Int) + 2)):reachTo cs roots (k + 1)=reachTo cs roots k ++ [(k:Int) + 2]:=by
 unfold reachTo
 rw [List.range_succ,List.map_append,List.filter_append]
 simp [reachB_iff.2 h]

theorem reachTo_out {cs:List (Option Rec)} {roots:List Int} {k:Nat} (h:¬ Reaches cs roots ((k:Int) + 2)):reachTo cs roots (k + 1)=reachTo cs roots k:=by
 unfold reachTo
 rw [List.range_succ,List.map_append,List.filter_append]
 have:reachB cs roots ((k:Int) + 2)=false:=by
  cases hb:reachB cs roots ((k:Int) + 2) with
  | false=>rfl
  | true=>exact absurd (reachB_iff.1 hb) h
 simp [this]

theorem reachTo_len (cs:List (Option Rec)) (roots:List Int) (k:Nat):(reachTo cs roots k).length ≤ k:=by
 unfold reachTo
 have:=List.length_filter_le (reachB cs roots) ((List.range k).map (fun i:Nat=>(i:Int) + 2))
 simpa using this

theorem reachL_filter (cs:List (Option Rec)) (roots:List Int) (f:Int → Bool) (hf:∀ id,2 ≤ id → id < (cs.length:Int) + 2 → (f id=true ↔ Reaches cs roots id)) :
  ((List.range cs.length).map (fun i:Nat=>(i:Int) + 2)).filter f=reachL cs roots:=by
 unfold reachL
 refine List.filter_congr fun x hx=>?_
 obtain ⟨i,hi,rfl⟩:=List.mem_map.1 hx
 have hi:=List.mem_range.1 hi
 have:=hf ((i:Int) + 2) (by omega) (by omega)
 cases hfi:f ((i:Int) + 2) with
 | true=>simp [this.1 hfi]
 | false=>
  have:¬ Reaches cs roots ((i:Int) + 2):=fun h=>by rw [this.2 h] at hfi;cases hfi
  simp [this]

theorem reachTo_all (cs:List (Option Rec)) (roots:List Int):reachTo cs roots cs.length=reachL cs roots:=reachL_filter cs roots _ (fun _ _ _=>reachB_iff)

theorem info_bool:(Tryz.prog.info? 4).map (fun i=>(i.zero,i.size,i.bytes))=some (some (.bool false),1,1):=by kernel_rfl

theorem RefRep.size {F:Nat → Prop} {w:World} {mb:Nat} {M:St} {L:List (Int × Rec)} (h:RefRep F w mb M L):w.cell? ⟨mb,2,none⟩=some (.int .u32 (M.cs.length:Int)):=by
 obtain ⟨⟨lv,gv,h1,_⟩,-⟩:=h
 rw [cell_of_row w mb 2 _ _ _ h1]
 rfl

def one (m:Bool):Nat:=if m then 1 else 0

set_option maxRecDepth 1000000 in
set_option maxHeartbeats 4000000 in
theorem ref_reach {F:Nat → Prop} {w:World} {mb:Nat} {M:St} {L:List (Int × Rec)} (h:RefRep F w mb M L) (a:Option Addr) (len cap:Nat) (es:List Edge) (hes:IsEdges w a len es) (hlen:len ≤ 1048576) :
  Calls Tryz.prog 58 #[.pointer (some ⟨mb,0,none⟩),.slice a len cap] w fun e w'=>
   ∃ v,e=.returned v ∧ IdRow w' v (reachL M.cs (es.map Edge.to)) ∧ Keeps w w':=by
 have HR:=Lib.hid h
 have HE:=Lib.hid hes
 obtain ⟨la,lcap,c0,hla⟩:=h.cell
 have HLA:=Lib.hid hla
 have c2:=h.size
 have hle:=h.le
 have hfew:=h.few
 have hmb:=h.lt _ h.own
 obtain ⟨i0,hi,hz0,hz1,hz2⟩:=info_parts info_u32
 obtain ⟨j0,hj,jz0,jz1,jz2⟩:=info_parts info_bool
 clear h hes hla
 go_enter Tryz.func58,Tryz.ntmps58
 go_wp2_with (first
  | (at_make;refine wpList_make_full _ rfl _ _ 40 rfl w.heap.size 4 j0 (.bool false) 1 Tryz.underlying40 hj jz0 jz1 .i64 .i64 (L.length:Int) (L.length:Int) L.length rfl rfl rfl rfl (by rw [jz2];omega) (by unfold maxLen;omega) (Nat.le_refl _) ?_;intro w1 hown1 hg1)
  | fail)
 have HB1:=Lib.hid (bools_made hown1)
 have HK1:=Lib.hid (show Keeps w w1 from ⟨hg1.os,hg1.tape,hg1.output,hg1.size,fun i hi=>hg1.block i hi (by simp)⟩)
 clear hown1 hg1
 go_loopg [6] len (fun gk s6 wr=>∃ (d:Nat) (bs:List Bool),d + gk=len ∧ s6=.int .i64 (d:Int) ∧ BoolsAt wr w.heap.size bs ∧ Marked M.cs ((es.take d).map Edge.to) L bs ∧ Keeps w wr)
 case atStart=>exact ⟨0,_,by omega,rfl,HB1.out,Marked.start _ _,HK1.out⟩
 case round=>
  obtain ⟨d,bs,hd,rfl,hB,hM,hk⟩:=hrel
  have HB:=Lib.hid hB
  have HM:=Lib.hid hM
  have HK:=Lib.hid hk
  clear hB hM hk
  by_cases hlt:d < len
  ·obtain ⟨x,hx⟩:∃ x,es[d]?=some x:=⟨_,List.getElem?_eq_getElem (by rw [HE.out.1];exact hlt)⟩
   obtain ⟨hok,b,off,rfl,t0,t1⟩:=HE.out.2 d x hx
   have t1:=HK.out.cell t1
   have e1:es.take (d + 1)=es.take d ++ [x]:=by rw [List.take_add_one,hx];rfl
   have HAT:=Lib.hid (ref_at (HR.out.keeps HK.out) x.to)
   clear t0
   rcases atI_look HR.out x.to with ⟨r,hl,D,hLD,hq,hDl,hat⟩ | ⟨hl,hq,hat⟩
   ·clear hq
    rw [hat] at HAT
    have cD:=HB.out.cell (i:=D) (b:=bs[D]'(by rw [HM.out.len];exact hDl)) (List.getElem?_eq_getElem _)
    have fD:=HB.out.frozen D
    go_wp2_with (first | (go_at_call 89;refine HAT.out.mono ?_;rintro e w' ⟨rfl,rfl⟩) | fail)
    go_roundg (gk - 1)
    case rel=>exact ⟨d + 1,bs.set D true,by omega,by simp,HB.out.set D true,by rw [e1,List.map_append];exact HM.out.root hat hLD (by rw [hl];simp),HK.out.new ((Upd.refl (fun k=>k=w.heap.size) wr).setCell (Or.inl rfl) _) (fun k hk=>by omega)⟩
    case measure=>omega
   ·clear hq
    rw [hat] at HAT
    go_wp2_with (first | (go_at_call 89;refine HAT.out.mono ?_;rintro e w' ⟨rfl,rfl⟩) | fail)
    go_roundg (gk - 1)
    case rel=>exact ⟨d + 1,bs,by omega,by simp,HB.out,by rw [e1,List.map_append];exact HM.out.miss hat,HK.out⟩
    case measure=>omega
  ·have e1:es.take d=es:=List.take_of_length_le (by have:=HE.out.1;omega)
   rw [e1] at HM
   go_wp2_with fail
   go_loopg [8] (L.length + 2) (fun gk s8 wr=>∃ (bs:List Bool) (m:Bool),s8=.bool m ∧ BoolsAt wr w.heap.size bs ∧ Marked M.cs (es.map Edge.to) L bs ∧ blanks bs + one m ≤ gk ∧ (m=false → ShutTo L bs L.length) ∧ Keeps w wr)
   case atStart=>exact ⟨bs,true,rfl,HB.out,HM.out,by have:=blanks_le bs;have:=HM.out.len;unfold one;simp;omega,(fun h=>by cases h),HK.out⟩
   case round=>
    obtain ⟨bs,m,rfl,hB,hM,hgk,hsh,hk⟩:=hrel
    have HB2:=Lib.hid hB
    have HM2:=Lib.hid hM
    have HK2:=Lib.hid hk
    clear hB hM hk HB HM HK
    cases m
    ·have HS:=Lib.hid (hsh rfl)
     clear hsh
     have c2s:=HK2.out.cell c2
     go_wp2_with fail
     go_loopg [12,13] M.cs.length (fun gj s12 s13 ws=>∃ k:Nat,k + gj=M.cs.length ∧ s13=.int .u32 ((k:Int) + 2) ∧ ws.ownsRow w.heap.size 23 1 s12 (reachTo M.cs (es.map Edge.to) k).length ((reachTo M.cs (es.map Edge.to) k).map (Value.int .u32)) ∧ BoolsAt ws w.heap.size bs ∧ Keeps w ws)
     case atStart=>exact ⟨0,by omega,rfl,World.ownsRow_nil _ _ _ _,HB2.out,HK2.out⟩
     case round=>
      obtain ⟨k,hkj,rfl,hrow,hB,hk⟩:=hrel
      have HB:=Lib.hid hB
      have HK:=Lib.hid hk
      have hbound:=reachTo_len M.cs (es.map Edge.to) k
      obtain ⟨ids,hids⟩:∃ ids,ids=reachTo M.cs (es.map Edge.to) k:=⟨_,rfl⟩
      rw [← hids] at hrow hbound
      obtain ⟨va,vcap,rfl,hva⟩:=owns_slice hrow
      have HR2:=Lib.hid hrow
      have HIDS:=Lib.hid hids
      have c2s:=HK.out.cell c2
      clear hB hk hrow hids hva
      by_cases hlt:k < M.cs.length
      ·have hw1:IntKind.u32.wrap ((M.cs.length:Int) + 2)=(M.cs.length:Int) + 2:=IntWalk.u32_in _ ⟨by omega,by omega⟩
       have HAT:=Lib.hid (ref_at (HR.out.keeps HK.out) ((k:Int) + 2))
       rcases atI_look HR.out ((k:Int) + 2) with ⟨r,hl,D,hLD,hq,hDl,hat⟩ | ⟨hl,hq,hat⟩
       ·clear hq
        rw [hat] at HAT
        have hiff:=HM2.out.iff HR.out HS.out hat
        obtain ⟨bD,hbD⟩:∃ bD,bs[D]?=some bD:=⟨_,List.getElem?_eq_getElem (by rw [HM2.out.len];exact hDl)⟩
        have cD:=HB.out.cell hbD
        cases bD
        ·have hno:¬ Reaches M.cs (es.map Edge.to) ((k:Int) + 2):=fun h=>by have:=hiff.2 h;rw [hbD] at this;cases this
         have HNO:=Lib.hid hno
         clear hiff hno
         go_wp2_with (first | (go_at_call 89;refine HAT.out.mono ?_;rintro e w' ⟨rfl,rfl⟩) | fail)
         go_roundg (gk - 1)
         case rel=>exact ⟨k + 1,by omega,by go_num,by rw [reachTo_out HNO.out,← HIDS.out];exact HR2.out,HB.out,HK.out⟩
         case measure=>omega
        ·have HYES:=Lib.hid (hiff.1 hbD)
         clear hiff
         go_wp2_with (first
          | (go_at_call 89;refine HAT.out.mono ?_;rintro e w' ⟨rfl,rfl⟩)
          | (at_builtin;refine wpList_append_own _ rfl _ _ 108 rfl w.heap.size 23 i0 (.int .u32 0) 1 4 Tryz.underlying108 hi hz0 hz1 hz2 rfl (by decide) (.slice va ids.length vcap) ids.length (ids.map (Value.int .u32)) rfl (HR2.out.alloc _) ⟨wr.heap.size,0,none⟩ 1 1 [.int .u32 ((k:Int) + 2)] rfl rfl (cell_new _ _ _ _ rfl) (by simp [Value.oneCell']) (by unfold maxLen;omega) (by omega) (by have:=HK.out.size;simp;omega) ?_;intro v' w3 hown3 hg3 _)
          | fail)
         have HO3:=Lib.hid hown3
         have HU3:=Lib.hid (show Upd (fun k=>Value.ownBlock (.slice va ids.length vcap)=some k) (wr.alloc (.cells #[.int .u32 ((k:Int) + 2)] 23)) w3 from ⟨hg3.os,hg3.tape,hg3.output,hg3.size,fun k hk hn=>hg3.block k hk (fun e=>hn e.symm)⟩)
         clear hown3 hg3
         go_roundg (gk - 1)
         case rel=>
          have nb:∀ k,Value.ownBlock (.slice va ids.length vcap)=some k → k ≠ w.heap.size:=by
           intro k hk
           obtain ⟨cs,hcs⟩:=owns_type HR2.out hk
           exact ne_of_type hcs HB.out (by decide)
          refine ⟨k + 1,by omega,by go_num,?_,(HB.out.keep (((Upd.refl (fun _=>False) wr).alloc _)) (fun h=>h)).keep HU3.out (fun h=>nb _ h rfl),(HK.out.alloc _).new HU3.out (fun j hj=>?_)⟩
          ·rw [reachTo_in HYES.out,← HIDS.out]
           simpa using HO3.out
          ·rcases HR2.out.2 with ⟨h0,_⟩ | ⟨g,cap',cur,h0,hbg,_⟩
           ·rw [h0] at hj;simp [Value.ownBlock] at hj
           ·rw [h0] at hj;simp [Value.ownBlock] at hj;omega
         case measure=>omega
       ·clear hq
        rw [hat] at HAT
        have hno:¬ Reaches M.cs (es.map Edge.to) ((k:Int) + 2):=fun h=>h.some hl
        have HNO:=Lib.hid hno
        clear hno
        go_wp2_with (first | (go_at_call 89;refine HAT.out.mono ?_;rintro e w' ⟨rfl,rfl⟩) | fail)
        go_roundg (gk - 1)
        case rel=>exact ⟨k + 1,by omega,by go_num,by rw [reachTo_out HNO.out,← HIDS.out];exact HR2.out,HB.out,HK.out⟩
        case measure=>omega
      ·have hk0:k=M.cs.length:=by omega
       have hw1:IntKind.u32.wrap ((M.cs.length:Int) + 2)=(M.cs.length:Int) + 2:=IntWalk.u32_in _ ⟨by omega,by omega⟩
       have hz:=HIDS.out
       rw [hk0,reachTo_all] at hz
       go_wp2
       go_ret
       refine ⟨.slice va ids.length vcap,rfl,⟨va,vcap,by rw [← hz],fun j x hx=>?_⟩,HK.out⟩
       rw [← hz] at hx
       rcases HR2.out.2 with ⟨h0,hn0⟩ | ⟨g,cap',cur,h0,hbg,hg,hn,hcm,hcs,htake⟩
       ·have e0:ids=[]:=List.length_eq_zero_iff.1 hn0
        subst e0
        simp at hx
       ·cases h0
        refine ⟨g,rfl,?_⟩
        have hj:=(List.getElem?_eq_some_iff.1 hx).1
        rw [HR2.out.cellAt j (by omega)]
        simp [hx]
    ·clear hsh
     have hgk:blanks bs + 1 ≤ gk:=by simpa [one] using hgk
     obtain ⟨g0,hg0⟩:∃ g0,g0=gk:=⟨_,rfl⟩
     have c0w:=HK2.out.cell c0
     go_wp2_with fail
     go_loopg [8,9] L.length (fun gj s8 s9 ws=>∃ (d:Nat) (bs1:List Bool) (m1:Bool),d + gj=L.length ∧ s9=.int .i64 (d:Int) ∧ s8=.bool m1 ∧ BoolsAt ws w.heap.size bs1 ∧ Marked M.cs (es.map Edge.to) L bs1 ∧ blanks bs1 + one m1 ≤ blanks bs ∧ (m1=false → ShutTo L bs1 d) ∧ Keeps w ws)
     case atStart=>exact ⟨0,bs,false,by omega,rfl,rfl,HB2.out,HM2.out,by simp [one],fun _ i p hi=>absurd hi (by omega),HK2.out⟩
     case round=>
      obtain ⟨d,bs1,m1,hd,rfl,rfl,hB,hM,hbl,hsh,hk⟩:=hrel
      have HB:=Lib.hid hB
      have HM:=Lib.hid hM
      have HK:=Lib.hid hk
      have HSh:=Lib.hid hsh
      clear hB hM hk hsh
      by_cases hlt:d < L.length
      ·obtain ⟨p,hp⟩:∃ p,L[d]?=some p:=⟨_,List.getElem?_eq_getElem hlt⟩
       obtain ⟨id,r⟩:=p
       have hlk:=(HR.out.mem id r).1 (List.mem_of_getElem? hp)
       have c0s:=HK.out.cell c0
       obtain ⟨lb,lc2,q0,_,_,q1,q2,q3,q4,q5,q6,q7⟩:=(HR.out.keeps HK.out).node hp
       clear q1 q2 q3 q4 q6
       rw [c0s] at q0
       cases q0
       obtain ⟨bd,hbd⟩:∃ bd,bs1[d]?=some bd:=⟨_,List.getElem?_eq_getElem (by rw [HM.out.len];exact hlt)⟩
       have HAT:Hid (∀ (id:Int) (n:Nat),Calls Tryz.prog 89 #[.pointer (some ⟨mb,0,none⟩),.int .u32 id] (wr.drewN n) fun e w'=>e=.returned (.int .i64 (atI L id)) ∧ w'=wr.drewN n):=Lib.hid (fun id n=>(ref_at (HR.out.keeps (HK.out.drewN n)) id).mono (fun e w' h=>⟨h.1,h.2.symm⟩))
       obtain ⟨av,hav⟩:∃ av,atI L r.lo.to=av:=⟨_,rfl⟩
       obtain ⟨bv,hbv⟩:∃ bv,atI L r.hi.to=bv:=⟨_,rfl⟩
       have HAV:=Lib.hid hav
       have HBV:=Lib.hid hbv
       clear hav hbv
       have HLM:Hid (bd=true → bs1[d]?=some true):=Lib.hid (fun h=>by rw [hbd,h])
       have HBD:=Lib.hid hbd
       have HP:=Lib.hid hp
       have HLK:=Lib.hid hlk
       clear hbd hp hlk
       go_upto_region 14 with fail
       go_cut [10,11] (fun s10 s11 wx=>s10=.int .i64 av ∧ s11=.int .i64 bv ∧ BoolsAt wx w.heap.size bs1 ∧ Keeps w wx)
       case first=>
        go_big_quiet (first | (go_at_call 89;exact Calls.quiet_of_same (HAT.out _ _)))
        go_wp2_with fail
        go_meet
        case rel=>exact ⟨by rw [HAV.out],by rw [HBV.out],HB.out,HK.out.drewN _⟩
       case rest=>
        obtain ⟨rfl,rfl,hB,hk⟩:=hcut
        have HBa:=Lib.hid hB
        have HKc:=Lib.hid hk
        clear hB hk
        have cd:=HBa.out.cell HBD.out
        go_upto_region 15 with fail
        go_cut [87] (fun s wx=>∃ c:Bool,s=.bool c ∧ BoolsAt wx w.heap.size bs1 ∧ Keeps w wx ∧ (c=true → bd=true ∧ ∃ (D:Nat) (r':Rec),av=(D:Int) ∧ L[D]?=some (r.lo.to,r') ∧ look M.cs r.lo.to=some r' ∧ bs1[D]?=some false) ∧ (c=false → bd=true → ∀ D:Nat,atI L r.lo.to=(D:Int) → bs1[D]?=some true))
        case first=>
         cases bd
         ·go_wp2_with fail
          go_meet
          case rel=>exact ⟨false,rfl,HBa.out,HKc.out,(fun h=>by cases h),(fun _ h=>by cases h)⟩
         ·rcases atI_look HR.out r.lo.to with ⟨r',hl',D,hLD,hq,hDl,hat⟩ | ⟨hl',hq,hat⟩
          ·clear hq
           have hv:=HAV.out
           rw [hat] at hv
           subst hv
           obtain ⟨bD,hbD⟩:∃ bD,bs1[D]?=some bD:=⟨_,List.getElem?_eq_getElem (by rw [HM.out.len];exact hDl)⟩
           have cD:=HBa.out.cell hbD
           cases bD
           ·go_wp2_with fail
            go_meet
            case rel=>exact ⟨true,rfl,HBa.out,HKc.out,(fun _=>⟨by trivial,D,r',rfl,hLD,hl',hbD⟩),(fun h=>by cases h)⟩
           ·go_wp2_with fail
            go_meet
            case rel=>exact ⟨false,rfl,HBa.out,HKc.out,(fun h=>by cases h),(fun _ _ D' hD'=>by rw [hat] at hD';obtain rfl:D'=D:=(by omega);exact hbD)⟩
          ·clear hq
           have hv:=HAV.out
           rw [hat] at hv
           subst hv
           go_wp2_with fail
           go_meet
           case rel=>exact ⟨false,rfl,HBa.out,HKc.out,(fun h=>by cases h),(fun _ _ D' hD'=>absurd hD' (by rw [hat];omega))⟩
        case rest=>
         obtain ⟨c,rfl,hB,hk,ht,hf⟩:=hcut
         have HBa:=Lib.hid hB
         have HKc:=Lib.hid hk
         have HT:=Lib.hid ht
         have HF:=Lib.hid hf
         clear hB hk ht hf cd
         go_upto_if 87 with fail
         go_cut [8] (fun s8 wx=>∃ (bsn:List Bool) (mn:Bool),s8=.bool mn ∧ BoolsAt wx w.heap.size bsn ∧ Keeps w wx ∧ Marked M.cs (es.map Edge.to) L bsn ∧ blanks bsn + one mn ≤ blanks bs ∧ (mn=false → m1=false ∧ bsn=bs1 ∧ (bd=true → ∀ D:Nat,atI L r.lo.to=(D:Int) → bs1[D]?=some true)) ∧ (bd=true → bsn[d]?=some true))
         case first=>
          cases c
          ·go_wp2_with fail
           go_meet
           case rel=>exact ⟨bs1,m1,rfl,HBa.out,HKc.out,HM.out,hbl,(fun h=>⟨h,rfl,HF.out (by trivial)⟩),(fun h=>by rw [HBD.out,h])⟩
          ·obtain ⟨hbt,D,r',hvD,hLD,hl',hbD⟩:=HT.out (by trivial)
           subst hvD
           have hbd:=HBD.out
           rw [hbt] at hbd
           have cD:=HBa.out.cell hbD
           have fD:=HBa.out.frozen D
           have hDl:=(List.getElem?_eq_some_iff.1 hLD).1
           have HMn:=Lib.hid (HM.out.child HP.out hbd HLK.out (.inl rfl) hLD hl')
           have hbn:=blanks_set hbD
           go_wp2_with fail
           go_meet
           case rel=>exact ⟨bs1.set D true,true,rfl,HBa.out.set D true,HKc.out.new ((Upd.refl (fun k=>k=w.heap.size) _).setCell (Or.inl rfl) _) (fun k hk=>by omega),HMn.out,(by have:=hbl;simp [one];omega),(fun h=>by cases h),(fun _=>true_set hbd)⟩
         case rest=>
          obtain ⟨bs2,m2,rfl,hB,hk,hM2,hbl2,hst2,hd2⟩:=hcut
          have HM2:=Lib.hid hM2
          have HST2:=Lib.hid hst2
          obtain ⟨be,hbe⟩:∃ be,bs2[d]?=some be:=⟨_,List.getElem?_eq_getElem (by rw [hM2.len];exact hlt)⟩
          have HBE:=Lib.hid hbe
          clear hM2 hst2 hbe
          have HBb:=Lib.hid hB
          have HKc:=Lib.hid hk
          clear hB hk
          have cd:=HBb.out.cell HBE.out
          go_upto_region 18 with fail
          go_cut [105] (fun s wx=>∃ c:Bool,s=.bool c ∧ BoolsAt wx w.heap.size bs2 ∧ Keeps w wx ∧ (c=true → be=true ∧ ∃ (D:Nat) (r':Rec),bv=(D:Int) ∧ L[D]?=some (r.hi.to,r') ∧ look M.cs r.hi.to=some r' ∧ bs2[D]?=some false) ∧ (c=false → be=true → ∀ D:Nat,atI L r.hi.to=(D:Int) → bs2[D]?=some true))
          case first=>
           cases be
           ·go_wp2_with fail
            go_meet
            case rel=>exact ⟨false,rfl,HBb.out,HKc.out,(fun h=>by cases h),(fun _ h=>by cases h)⟩
           ·rcases atI_look HR.out r.hi.to with ⟨r',hl',D,hLD,hq,hDl,hat⟩ | ⟨hl',hq,hat⟩
            ·clear hq
             have hv:=HBV.out
             rw [hat] at hv
             subst hv
             obtain ⟨bD,hbD⟩:∃ bD,bs2[D]?=some bD:=⟨_,List.getElem?_eq_getElem (by rw [HM2.out.len];exact hDl)⟩
             have cD:=HBb.out.cell hbD
             cases bD
             ·go_wp2_with fail
              go_meet
              case rel=>exact ⟨true,rfl,HBb.out,HKc.out,(fun _=>⟨by trivial,D,r',rfl,hLD,hl',hbD⟩),(fun h=>by cases h)⟩
             ·go_wp2_with fail
              go_meet
              case rel=>exact ⟨false,rfl,HBb.out,HKc.out,(fun h=>by cases h),(fun _ _ D' hD'=>by rw [hat] at hD';obtain rfl:D'=D:=(by omega);exact hbD)⟩
            ·clear hq
             have hv:=HBV.out
             rw [hat] at hv
             subst hv
             go_wp2_with fail
             go_meet
             case rel=>exact ⟨false,rfl,HBb.out,HKc.out,(fun h=>by cases h),(fun _ _ D' hD'=>absurd hD' (by rw [hat];omega))⟩
          case rest=>
           obtain ⟨c,rfl,hB,hk,ht,hf⟩:=hcut
           have HBb:=Lib.hid hB
           have HKc:=Lib.hid hk
           have HT:=Lib.hid ht
           have HF:=Lib.hid hf
           clear hB hk ht hf cd
           go_upto_if 105 with fail
           cases c
           ·go_wp2_with fail
            go_roundg (gk - 1)
            case rel=>
             refine ⟨d + 1,bs2,m2,by omega,by simp,rfl,HBb.out,HM2.out,hbl2,fun h3=>?_,HKc.out⟩
             obtain ⟨e1,e0,k1⟩:=HST2.out h3
             subst e0
             intro i p hi hpi hbi
             by_cases hid:i < d
             ·exact HSh.out e1 i p hid hpi hbi
             ·obtain rfl:i=d:=by omega
              rw [HP.out] at hpi
              cases hpi
              have g1:=HBD.out
              have g2:=HBE.out
              rw [hbi] at g1 g2
              cases g1
              cases g2
              exact ⟨k1 rfl,HF.out (by trivial) (by trivial)⟩
            case measure=>omega
           ·obtain ⟨hbt,D,r',hvD,hLD,hl',hbD⟩:=HT.out (by trivial)
            subst hvD
            have hbd:=HBE.out
            rw [hbt] at hbd
            have cD:=HBb.out.cell hbD
            have fD:=HBb.out.frozen D
            have hDl:=(List.getElem?_eq_some_iff.1 hLD).1
            have HMn:=Lib.hid (HM2.out.child HP.out hbd HLK.out (.inr rfl) hLD hl')
            have hbn:=blanks_set hbD
            go_wp2_with fail
            go_roundg (gk - 1)
            case rel=>exact ⟨d + 1,bs2.set D true,true,by omega,by simp,rfl,HBb.out.set D true,HMn.out,(by simp [one];omega),(fun h=>by cases h),HKc.out.new ((Upd.refl (fun k=>k=w.heap.size) _).setCell (Or.inl rfl) _) (fun k hk=>by omega)⟩
            case measure=>omega
      ·have c0s:=HK.out.cell c0
       go_wp2_with fail
       go_roundg (g0 - 1)
       case rel=>exact ⟨bs1,m1,rfl,HB.out,HM.out,by omega,(fun h=>by have:=HSh.out h;have e:d=L.length:=(by omega);rwa [e] at this),HK.out⟩
       case measure=>omega

end Go.Proofs.YtpgcbmbnognieaaGreat
