/-
  What View does, over the state (printed by wip/mk_vstore.py).
-/
import Derived.Test.YtpgcbmbnognieaaGreatPNatP
import Derived.Test.YtpgcbmbnognieaaGreatPTMakeA
namespace Go.Proofs.YtpgcbmbnognieaaGreat
set_option linter.unusedSimpArgs false
set_option linter.unusedVariables false
set_option maxHeartbeats 600000
open Go.RowKit

theorem leads_some {M:St} {f:Int} {e:Edge} {l:Int} (h:M.leads f e l=true) {r:Rec} (hl:look M.cs e.to=some r):r.form=f ∧ l ≤ r.top ∧ e.tag ≤ r.top:=by
 have h2:=(look_some hl).1
 unfold St.leads at h
 rw [hl,decide_eq_false (show ¬ e.to < 2 by omega)] at h
 simp at h
 exact ⟨h.2.1.1,h.2.1.2,h.2.2⟩

def vOut (f l:Int) (e:Edge):Edge × Edge × Int:=
 if f=1 ∨ f=3 then (e,e,0) else if f=5 then (⟨l + 1,e.to⟩,⟨0,0⟩,0) else (e,⟨0,0⟩,0)

def viewAct (M:St) (f:Int) (e:Edge) (l:Int):(Edge × Edge × Int) ⊕ Rec:=
 if l < 0 ∨ M.n ≤ l then .inl (⟨0,0⟩,⟨0,0⟩,3)
 else if M.leads f e l=false then .inl (⟨0,0⟩,⟨0,0⟩,1)
 else if f=5 ∧ (e.to=0 ∨ l < e.tag) then .inl (e,e,0)
 else match look M.cs e.to with
  | none=>.inl (vOut f l e)
  | some r=>if l < r.top then .inl (vOut f l e) else if (f=3 ∨ f=4) ∧ r.bot ≠ r.top then .inr ⟨r.form,r.top + 1,r.bot,r.lo,r.hi⟩ else .inl (r.lo,r.hi,0)

theorem foundE_ok {M:St} {t:Int} {r:Rec} (h:M.findErr r=0):foundE M t r=⟨t,M.findId r⟩:=if_pos h

theorem RefRep.node {F:Nat → Prop} {w:World} {mb:Nat} {M:St} {L:List (Int × Rec)} (h:RefRep F w mb M L) {id:Int} {r:Rec} {D:Nat} (hD:L[D]?=some (id,r)) :
  ∃ lb cap,w.cell? ⟨mb,0,none⟩=some (.slice (some ⟨lb,0,none⟩) L.length cap) ∧ D < L.length ∧ L.length ≤ 1048576 ∧
   w.cell? ⟨lb,D * 8 + 1,none⟩=some (.int .u8 r.form) ∧ w.cell? ⟨lb,D * 8 + 2,none⟩=some (.int .u8 r.top) ∧ w.cell? ⟨lb,D * 8 + 3,none⟩=some (.int .u8 r.bot) ∧ w.cell? ⟨lb,D * 8 + 4,none⟩=some (.int .u8 r.lo.tag) ∧
   w.cell? ⟨lb,D * 8 + 5,none⟩=some (.int .u32 r.lo.to) ∧ w.cell? ⟨lb,D * 8 + 6,none⟩=some (.int .u8 r.hi.tag) ∧ w.cell? ⟨lb,D * 8 + 7,none⟩=some (.int .u32 r.hi.to):=by
 have hl:=(List.getElem?_eq_some_iff.1 hD).1
 obtain ⟨a,cap,c0,hc⟩:=h.cell
 obtain ⟨lb,rfl,_,hv⟩:=hc (by omega)
 have g:=fun j (hj:j < 8)=>hv D _ hD j hj
 exact ⟨lb,cap,c0,hl,h.le,(g 1 (by omega)).trans rfl,(g 2 (by omega)).trans rfl,(g 3 (by omega)).trans rfl,(g 4 (by omega)).trans rfl,(g 5 (by omega)).trans rfl,(g 6 (by omega)).trans rfl,(g 7 (by omega)).trans rfl⟩

theorem cbdd_found0 {F:Nat → Prop} {w:World} {sb:Nat} {M:St} (h:StoreRep F w sb M) (r:Rec) (hr:r.ok) :
  Calls Tryz.prog 229 #[.pointer (some ⟨sb,0,none⟩),.agg #[.int .u8 r.form,.int .u8 r.top,.int .u8 r.bot,.int .u8 r.lo.tag,.int .u32 r.lo.to,.int .u8 r.hi.tag,.int .u32 r.hi.to]] w fun e w'=>e=.returned (.tuple #[.agg #[.int .u8 (foundE M 0 r).tag,.int .u32 (foundE M 0 r).to],.int .u8 (M.findErr r)]) ∧ Upd F w w' ∧ StoreRep (Grow F w w') w' sb (M.findSt r):=by
 have hf:=fun (W:World) (hW:Keeps w W)=>store_find (h.keeps hW) r hr
 by_cases he:M.findErr r=0
 ·have e1:foundE M 0 r=⟨0,M.findId r⟩:=if_pos he
  rw [e1,he]
  rw [he] at hf
  refine (cfound_ok sb r (M.findId r) w h.pos h.lt (fun W W1=>StoreRep (Grow F W W1) W1 sb (M.findSt r)) hf).mono ?_
  rintro e w' ⟨rfl,W,W1,h1,h2,h3,h4⟩
  exact ⟨rfl,h3.after h.lt h1 h2 h4⟩
 ·have e1:foundE M 0 r=⟨0,0⟩:=if_neg he
  rw [e1]
  refine (cfound_bad sb r (M.findId r) (M.findErr r) he w h.pos h.lt (fun W W1=>StoreRep (Grow F W W1) W1 sb (M.findSt r)) hf).mono ?_
  rintro e w' ⟨rfl,W,W1,h1,h2,h3,h4⟩
  exact ⟨rfl,h3.after h.lt h1 h2 h4⟩

theorem czdd_found0 {F:Nat → Prop} {w:World} {sb:Nat} {M:St} (h:StoreRep F w sb M) (r:Rec) (hr:r.ok) :
  Calls Tryz.prog 230 #[.pointer (some ⟨sb,0,none⟩),.agg #[.int .u8 r.form,.int .u8 r.top,.int .u8 r.bot,.int .u8 r.lo.tag,.int .u32 r.lo.to,.int .u8 r.hi.tag,.int .u32 r.hi.to]] w fun e w'=>e=.returned (.tuple #[.agg #[.int .u8 (foundE M 0 r).tag,.int .u32 (foundE M 0 r).to],.int .u8 (M.findErr r)]) ∧ Upd F w w' ∧ StoreRep (Grow F w w') w' sb (M.findSt r):=by
 have hf:=fun (W:World) (hW:Keeps w W)=>store_find (h.keeps hW) r hr
 by_cases he:M.findErr r=0
 ·have e1:foundE M 0 r=⟨0,M.findId r⟩:=if_pos he
  rw [e1,he]
  rw [he] at hf
  refine (zfound_ok sb r (M.findId r) w h.pos h.lt (fun W W1=>StoreRep (Grow F W W1) W1 sb (M.findSt r)) hf).mono ?_
  rintro e w' ⟨rfl,W,W1,h1,h2,h3,h4⟩
  exact ⟨rfl,h3.after h.lt h1 h2 h4⟩
 ·have e1:foundE M 0 r=⟨0,0⟩:=if_neg he
  rw [e1]
  refine (zfound_bad sb r (M.findId r) (M.findErr r) he w h.pos h.lt (fun W W1=>StoreRep (Grow F W W1) W1 sb (M.findSt r)) hf).mono ?_
  rintro e w' ⟨rfl,W,W1,h1,h2,h3,h4⟩
  exact ⟨rfl,h3.after h.lt h1 h2 h4⟩

def WordsAt (w:World) (a:Option Addr) (ws:List Int):Prop:=∀ i x,ws[i]?=some x → (0 ≤ x ∧ x < 2 ^ 64) ∧ ∃ b off,a=some ⟨b,off,none⟩ ∧ w.cell? ⟨b,off + i,none⟩=some (.int .u64 x)

theorem WordsAt.keeps {w w':World} {a:Option Addr} {ws:List Int} (h:WordsAt w a ws) (hk:Keeps w w'):WordsAt w' a ws:=fun i x hx=>by
 obtain ⟨h1,b,off,ha,hc⟩:=h i x hx
 exact ⟨h1,b,off,ha,hk.cell hc⟩

def RowU (w:World) (g:Nat) (ps:List Int):Prop:=∃ cur:Array Value,w.heap[g]?=some (.cells cur 50 (0,0)) ∧ ∀ (i:Nat) (x:Int),ps[i]?=some x → cur[i]?=some (Value.int .u64 x)

theorem RowU.cell {w:World} {g:Nat} {ps:List Int} (h:RowU w g ps) {i:Nat} {x:Int} (hx:ps[i]?=some x):w.cell? ⟨g,i,none⟩=some (.int .u64 x):=by
 obtain ⟨cur,h1,h2⟩:=h
 rw [cell_of_row w g i _ _ _ h1]
 simp only [h2 i x hx]

theorem RowU.frozen {w:World} {g:Nat} {ps:List Int} (h:RowU w g ps) (i:Nat):w.frozen? ⟨g,i,none⟩=false:=by
 obtain ⟨cur,h1,h2⟩:=h
 exact frozen_of_row w g i _ _ h1

theorem RowU.lt {w:World} {g:Nat} {ps:List Int} (h:RowU w g ps):g < w.heap.size:=by
 obtain ⟨cur,h1,h2⟩:=h
 exact lt_of_heap h1

theorem RowU.keep {G:Nat → Prop} {w w':World} {g:Nat} {ps:List Int} (h:RowU w g ps) (hu:Upd G w w') (hg:¬ G g):RowU w' g ps:=by
 have hl:=h.lt
 obtain ⟨cur,h1,h2⟩:=h
 exact ⟨cur,(hu.block g hl hg).trans h1,h2⟩

theorem RowU.keeps {w w':World} {g:Nat} {ps:List Int} (h:RowU w g ps) (hk:Keeps w w'):RowU w' g ps:=h.keep (hk.upd (fun _=>False)) (fun h=>h)

theorem RowU.words {w:World} {g:Nat} {ps:List Int} (h:RowU w g ps) (hr:∀ x ∈ ps,0 ≤ x ∧ x < 2 ^ 64):WordsAt w (some ⟨g,0,none⟩) ps:=fun i x hx=>⟨hr x (List.mem_of_getElem? hx),g,0,rfl,by rw [Nat.zero_add];exact h.cell hx⟩

theorem RowU.set {w:World} {g:Nat} {ps:List Int} (h:RowU w g ps) (i:Nat) (y:Int) (hi:i < ps.length):RowU (w.setCell ⟨g,i,none⟩ (.int .u64 y)) g (ps.set i y):=by
 obtain ⟨cur,h1,h2⟩:=h
 refine ⟨_,Go.heap_setCell_same w g i _ _ (.int .u64 y) h1,fun j x hx=>?_⟩
 rw [Array.getElem?_setIfInBounds]
 by_cases hj:i=j
 ·subst hj
  have hc:=h2 i ps[i] (by simp [hi])
  have hs:i < cur.size:=(Array.getElem?_eq_some_iff.1 hc).1
  rw [if_pos rfl,if_pos hs]
  simp [hi] at hx
  rw [hx]
 ·rw [if_neg hj]
  rw [List.getElem?_set_ne hj] at hx
  exact h2 j x hx

theorem rowU_made {w:World} {blk n:Nat} (h:w.ownsRow blk 50 1 (.slice (some ⟨blk,0,none⟩) n n) n (madeCells (Value.int .u64 0).cells (n * 1)).toList):RowU w blk (List.replicate n 0):=by
 have e:(madeCells (Value.int .u64 0).cells (n * 1)).toList=(List.replicate n (0:Int)).map (Value.int .u64):=by
  rw [List.map_replicate,Nat.mul_one]
  simp [madeCells,Value.cells,Nat.mod_one]
  rw [List.map_const',List.length_range]
 rw [e] at h
 rcases h.2 with ⟨h0,_⟩ | ⟨g',cap',cur,hv,hb,hg,_,_,hs,ht⟩
 ·cases h0
 ·cases hv
  obtain ⟨cur0,hcur0⟩:=owns_type h (k:=blk) rfl
  refine ⟨cur,hg,fun i x hx=>?_⟩
  have h1:((List.replicate n (0:Int)).map (Value.int .u64))[i]?=some (.int .u64 x):=by rw [List.getElem?_map,hx];rfl
  rw [← ht,List.getElem?_take] at h1
  split at h1
  ·rw [Array.getElem?_toList] at h1
   exact h1
  ·cases h1

theorem info_u64:(Tryz.prog.info? 50).map (fun i=>(i.zero,i.size,i.bytes))=some (some (.int .u64 0),1,8):=by kernel_rfl

def bRest (_:St) (l:Int) (lo hi:Edge):(Edge × Int) ⊕ Rec:=if lo=hi then .inl (lo,0) else .inr ⟨1,l,l,lo,hi⟩

def zRest (_:St) (l:Int) (lo hi:Edge):(Edge × Int) ⊕ Rec:=if hi.to=0 then .inl (lo,0) else .inr ⟨2,l,l,lo,hi⟩

def cRest (M:St) (l:Int) (lo hi:Edge):(Edge × Int) ⊕ Rec:=
 if lo=hi then .inl (lo,0) else match look M.cs lo.to with
  | none=>.inr ⟨3,l,l,lo,hi⟩
  | some r=>if r.top=l + 1 then (if r.hi=hi then .inr ⟨3,l,r.bot,r.lo,hi⟩ else .inr ⟨3,l,l,lo,hi⟩) else .inr ⟨3,l,l,lo,hi⟩

def qRest (M:St) (l:Int) (lo hi:Edge):(Edge × Int) ⊕ Rec:=
 if hi.to=0 then .inl (lo,0) else match look M.cs lo.to with
  | none=>.inr ⟨4,l,l,lo,hi⟩
  | some r=>if lo=hi then (if r.top=l + 1 then .inr ⟨4,l,r.bot,r.lo,r.hi⟩ else .inr ⟨4,l,l,lo,hi⟩) else .inr ⟨4,l,l,lo,hi⟩

def makeAct (M:St) (f l:Int) (lo hi:Edge) (rest:(Edge × Int) ⊕ Rec):(Edge × Int) ⊕ Rec:=
 if l < 0 ∨ M.n ≤ l then .inl (⟨0,0⟩,3)
 else if M.leads f lo (l + 1)=false ∨ M.leads f hi (l + 1)=false then .inl (⟨0,0⟩,1) else rest

def actE0 (M:St):(Edge × Int) ⊕ Rec → Edge | .inl x=>x.1 | .inr r=>foundE M 0 r

theorem rec_ok {f l b:Int} {lo hi:Edge} (hf:0 ≤ f ∧ f ≤ 255) (h0:0 ≤ l) (h1:l ≤ 16) (hb:0 ≤ b ∧ b ≤ 255) (hlo:lo.ok) (hhi:hi.ok):(⟨f,l,b,lo,hi⟩:Rec).ok:=
 ⟨hf,⟨h0,by show l ≤ 255;omega⟩,hb,hlo,hhi⟩

theorem bdd_found0 {F:Nat → Prop} {w:World} {sb:Nat} {M:St} (h:StoreRep F w sb M) (r:Rec) (hr:r.ok) :
  Calls Tryz.prog 227 #[.pointer (some ⟨sb,0,none⟩),.agg #[.int .u8 r.form,.int .u8 r.top,.int .u8 r.bot,.int .u8 r.lo.tag,.int .u32 r.lo.to,.int .u8 r.hi.tag,.int .u32 r.hi.to]] w fun e w'=>e=.returned (.tuple #[.agg #[.int .u8 (foundE M 0 r).tag,.int .u32 (foundE M 0 r).to],.int .u8 (M.findErr r)]) ∧ Upd F w w' ∧ StoreRep (Grow F w w') w' sb (M.findSt r):=by
 have hf:=fun (W:World) (hW:Keeps w W)=>store_find (h.keeps hW) r hr
 by_cases he:M.findErr r=0
 ·have e1:foundE M 0 r=⟨0,M.findId r⟩:=if_pos he
  rw [e1,he]
  rw [he] at hf
  refine (bfound_ok sb r (M.findId r) w h.pos h.lt (fun W W1=>StoreRep (Grow F W W1) W1 sb (M.findSt r)) hf).mono ?_
  rintro e w' ⟨rfl,W,W1,h1,h2,h3,h4⟩
  exact ⟨rfl,h3.after h.lt h1 h2 h4⟩
 ·have e1:foundE M 0 r=⟨0,0⟩:=if_neg he
  rw [e1]
  refine (bfound_bad sb r (M.findId r) (M.findErr r) he w h.pos h.lt (fun W W1=>StoreRep (Grow F W W1) W1 sb (M.findSt r)) hf).mono ?_
  rintro e w' ⟨rfl,W,W1,h1,h2,h3,h4⟩
  exact ⟨rfl,h3.after h.lt h1 h2 h4⟩

theorem zdd_found0 {F:Nat → Prop} {w:World} {sb:Nat} {M:St} (h:StoreRep F w sb M) (r:Rec) (hr:r.ok) :
  Calls Tryz.prog 228 #[.pointer (some ⟨sb,0,none⟩),.agg #[.int .u8 r.form,.int .u8 r.top,.int .u8 r.bot,.int .u8 r.lo.tag,.int .u32 r.lo.to,.int .u8 r.hi.tag,.int .u32 r.hi.to]] w fun e w'=>e=.returned (.tuple #[.agg #[.int .u8 (foundE M 0 r).tag,.int .u32 (foundE M 0 r).to],.int .u8 (M.findErr r)]) ∧ Upd F w w' ∧ StoreRep (Grow F w w') w' sb (M.findSt r):=by
 have hf:=fun (W:World) (hW:Keeps w W)=>store_find (h.keeps hW) r hr
 by_cases he:M.findErr r=0
 ·have e1:foundE M 0 r=⟨0,M.findId r⟩:=if_pos he
  rw [e1,he]
  rw [he] at hf
  refine (yfound_ok sb r (M.findId r) w h.pos h.lt (fun W W1=>StoreRep (Grow F W W1) W1 sb (M.findSt r)) hf).mono ?_
  rintro e w' ⟨rfl,W,W1,h1,h2,h3,h4⟩
  exact ⟨rfl,h3.after h.lt h1 h2 h4⟩
 ·have e1:foundE M 0 r=⟨0,0⟩:=if_neg he
  rw [e1]
  refine (yfound_bad sb r (M.findId r) (M.findErr r) he w h.pos h.lt (fun W W1=>StoreRep (Grow F W W1) W1 sb (M.findSt r)) hf).mono ?_
  rintro e w' ⟨rfl,W,W1,h1,h2,h3,h4⟩
  exact ⟨rfl,h3.after h.lt h1 h2 h4⟩

theorem permB_numsI {n:Nat} (h:n ≤ 16):permB (numsI n)=true:=permB_iff.2 ⟨by rw [numsI_len];exact h,fun x hx=>by rw [numsI_len];exact mem_numsI.1 hx,nodup_numsI n⟩

set_option maxRecDepth 100000 in
theorem permSame_calls (n:Nat) (h:n ≤ 16) (w:World) :
  Calls Tryz.prog 124 #[.int .i64 (n:Int)] w fun e w'=>e=.returned (.tuple #[.slice (some ⟨w.heap.size,0,none⟩) n n,.bool true]) ∧ RowI w' w.heap.size (numsI n) ∧ Keeps w w':=by
 obtain ⟨j0,hj,jz0,jz1,jz2⟩:=info_parts info_int
 go_enter Tryz.func124,Tryz.ntmps124
 go_wp2_with (first
  | (at_make;refine wpList_make_full _ rfl _ _ 38 rfl w.heap.size 3 j0 (.int .i64 0) 1 Tryz.underlying38 hj jz0 jz1 .i64 .i64 (n:Int) (n:Int) n rfl rfl rfl rfl (by rw [jz2];omega) (by unfold maxLen;omega) (by simp) ?_;intro w1 hown1 hg1)
  | fail)
 have HB1:=Lib.hid (rowI_made hown1)
 have hkk:Keeps w w1:=⟨hg1.os,hg1.tape,hg1.output,hg1.size,fun i hi=>hg1.block i hi (by simp)⟩
 have HKK:=Lib.hid hkk
 clear hown1 hg1 hkk
 go_loopg [5,16] n (fun gk s5 s16 wr=>∃ (d:Nat) (vs:List Int),d + gk=n ∧ s16=.int .i64 (d:Int) ∧ vs.length=n ∧ (∀ (j:Nat) (x:Int),j < d → vs[j]?=some x → x=(j:Int)) ∧ RowI wr w.heap.size vs ∧ Upd (fun k=>k=w.heap.size) w1 wr)
 case atStart=>exact ⟨0,_,by omega,rfl,by simp,fun j x hj=>by omega,HB1.out,Upd.refl _ _⟩
 case round=>
  obtain ⟨d,vs,hd,rfl,hvl,hvs,hR,hu⟩:=hrel
  have HR:=Lib.hid hR
  have HU:=Lib.hid hu
  have HVL:=Lib.hid hvl
  have HVS:=Lib.hid hvs
  clear hR hu hvl hvs
  by_cases hlt:d < n
  ·obtain ⟨y,hy⟩:∃ b,vs[d]?=some b:=⟨_,List.getElem?_eq_getElem (by rw [HVL.out];exact hlt)⟩
   have hcy:=HR.out.cell hy
   have hfy:=HR.out.frozen d
   clear hy
   go_wp2_with fail
   go_roundg (gk - 1)
   case rel=>
    refine ⟨d + 1,vs.set d (d:Int),by omega,by simp,by rw [List.length_set,HVL.out],fun j x hj hx=>?_,HR.out.set d _ (by rw [HVL.out];exact hlt),HU.out.setCell (p:=⟨w.heap.size,d,none⟩) (.inl rfl) _⟩
    by_cases e:j=d
    ·subst e
     rw [List.getElem?_set_self (by rw [HVL.out];exact hlt)] at hx
     exact (Option.some.inj hx).symm
    ·rw [List.getElem?_set_ne (fun h=>e h.symm)] at hx
     exact HVS.out j x (by omega) hx
   case measure=>omega
  ·have hfin:vs=numsI n:=by
    apply List.ext_getElem?
    intro j
    by_cases hj:j < n
    ·obtain ⟨y,hy⟩:∃ b,vs[j]?=some b:=⟨_,List.getElem?_eq_getElem (by rw [HVL.out];exact hj)⟩
     have:=HVS.out j y (by omega) hy
     rw [hy,this]
     unfold numsI
     rw [List.getElem?_map,List.getElem?_range hj]
     rfl
    ·rw [List.getElem?_eq_none (by rw [HVL.out];omega),List.getElem?_eq_none (by rw [numsI_len];omega)]
   have hkw:=HKK.out.new HU.out (fun k hk=>by omega)
   have hRf:=HR.out
   rw [hfin] at hRf
   have HRF:=Lib.hid hRf
   have HKW:=Lib.hid hkw
   clear hRf hkw hfin
   go_wp2_with fail
   go_ret2
   exact ⟨rfl,HRF.out,HKW.out⟩

set_option maxRecDepth 100000 in
theorem orderNew_calls (n:Nat) (h:n ≤ 16) (w:World) :
  Calls Tryz.prog 61 #[.int .i64 (n:Int)] w fun e w'=>Keeps w w' ∧ ∃ ob Fo,e=.returned (.tuple #[.pointer (some ⟨ob,0,none⟩),.int .u8 0]) ∧ OrdRep Fo w' ob (numsI n) ∧ ∀ k,Fo k → w.heap.size ≤ k:=by
 have HS:=Lib.hid (fun (W:World)=>permSame_calls n h W)
 have hof:=fun (W W':World) (hr:RowI W' W.heap.size (numsI n))=>by
  have:=orderOf_calls (some ⟨W.heap.size,0,none⟩) n (numsI n) W' hr.ints (by rw [numsI_len];omega)
  simp only [numsI_len,permB_numsI h,if_true] at this
  exact this
 have HOF:=Lib.hid hof
 clear hof
 go_enter Tryz.func61,Tryz.ntmps61
 go_wp2_with fail
 refine (HS.out _).mono ?_
 rintro e w1 ⟨rfl,hr,hk1⟩
 have HO1:=Lib.hid (HOF.out _ _ hr)
 clear hr
 go_wp2_with fail
 refine HO1.out.mono ?_
 rintro e w2 ⟨hk2,ob,Fo,rfl,hO,hF⟩
 have HO:=Lib.hid hO
 clear hO
 go_wp2_with fail
 go_ret2
 exact ⟨hk1.trans hk2,ob,Fo,rfl,HO.out,fun k hk=>by have:=hF k hk;have:=hk1.size;omega⟩

end Go.Proofs.YtpgcbmbnognieaaGreat
