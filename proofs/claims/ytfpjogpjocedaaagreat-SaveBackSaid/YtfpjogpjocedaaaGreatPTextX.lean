/-
  Plainly: good bytes are those of one right edge; loaded in a store they are an edge with the same bytes, or there is no room.
-/
import Derived.Test.YtfpjogpjocedaaaGreatPSaveS
import Derived.Test.YtfpjogpjocedaaaGreatPSaveU
import Derived.Test.YtfpjogpjocedaaaGreatPTextB
namespace Go.Proofs.YtfpjogpjocedaaaGreat
set_option linter.unusedSimpArgs false
set_option linter.unusedVariables false
set_option maxHeartbeats 600000

structure GoodB (b:List Int) (T:Txt) (M1:St) (ids:List Int):Prop where
 few:T.l.length ≤ 1048576
 read:readB b=some T
 perm:permB T.perm=true
 put:putL T.l (St.new (T.vars:Int) (T.l.length:Int)) []=(0,M1,ids)
 right:kRight M1 (T.form:Int) (atR ids T.e) 0=true
 bytes:saveB M1 T.perm (T.form:Int) (atR ids T.e)=b

theorem putL_wf:∀ (l:List Rec) (M:St) (ids:List Int),M.wf → (putL l M ids).2.1.wf ∧ Ext M (putL l M ids).2.1 ∧ (putL l M ids).2.1.room=M.room:=by
 intro l
 induction l with
 | nil=>intro M ids h;exact ⟨h,Ext.refl M,rfl⟩
 | cons x l ih=>
  intro M ids h
  unfold putL
  split
  ·obtain ⟨a,b,c⟩:=ih (M.findSt (atRec ids x)) (ids ++ [M.findId (atRec ids x)]) (h.find _)
   exact ⟨a,(findSt_ext h _).trans b,c.trans (findSt_room M _)⟩
  ·exact ⟨h,Ext.refl M,rfl⟩

theorem readB_facts {b:List Int} {T:Txt} (h:readB b=some T):T.perm.length=T.vars ∧ 1 ≤ T.form:=by
 unfold readB at h
 simp only [] at h
 split at h
 ·rename_i hc
  cases h
  exact ⟨numsR_len _ _,hc.2⟩
 ·cases h

structure NumE (k:Nat) (e:Edge):Prop where
 tag:0 ≤ e.tag ∧ e.tag ≤ 16
 at':0 ≤ e.to ∧ e.to ≤ (k:Int) + 1

structure NumRec (f:Int) (k:Nat) (r:Rec):Prop where
 form:r.form=f
 top:0 ≤ r.top ∧ r.top ≤ 16
 bot:0 ≤ r.bot ∧ r.bot ≤ 16
 lo:NumE k r.lo
 hi:NumE k r.hi

theorem numR_most (most:Nat) (rd:Option (List Int)):(numR most rd).1 ≤ most:=by
 unfold numR
 cases rd with
 | none=>exact Nat.zero_le _
 | some bs=>
  simp only []
  unfold getB
  cases getG 10 bs with
  | none=>exact Nat.zero_le _
  | some p=>
   obtain ⟨n,r⟩:=p
   simp only []
   by_cases h:n ≤ most
   ·rw [if_pos h];exact h
   ·rw [if_neg h];exact Nat.zero_le _

theorem edgeR_num (f:Int) (k:Nat) (rd:Option (List Int)):NumE k (edgeR f k rd).1:=by
 have h1:=numR_most (k + 1) rd
 have h2:=numR_most 16 (numR (k + 1) rd).2
 unfold edgeR
 split
 ·exact ⟨⟨by show (0:Int) ≤ ((numR 16 (numR (k + 1) rd).2).1:Int);omega,by show ((numR 16 (numR (k + 1) rd).2).1:Int) ≤ 16;omega⟩,⟨by show (0:Int) ≤ ((numR (k + 1) rd).1:Int);omega,by show ((numR (k + 1) rd).1:Int) ≤ _;omega⟩⟩
 ·exact ⟨⟨by show (0:Int) ≤ 0;decide,by show (0:Int) ≤ 16;decide⟩,⟨by show (0:Int) ≤ ((numR (k + 1) rd).1:Int);omega,by show ((numR (k + 1) rd).1:Int) ≤ _;omega⟩⟩

theorem recR_num (f:Int) (k:Nat) (rd:Option (List Int)):NumRec f k (recR f k rd).1:=by
 have h1:=numR_most 16 rd
 have h2:=numR_most 16 (numR 16 rd).2
 have h3:(botR f rd).1 ≤ 16:=by
  unfold botR
  split
  ·exact h2
  ·exact h1
 exact ⟨rfl,⟨by show (0:Int) ≤ ((numR 16 rd).1:Int);omega,by show ((numR 16 rd).1:Int) ≤ 16;omega⟩,⟨by show (0:Int) ≤ ((botR f rd).1:Int);omega,by show ((botR f rd).1:Int) ≤ 16;omega⟩,edgeR_num _ _ _,edgeR_num _ _ _⟩

theorem recsR_num (f:Int):∀ (j k:Nat) (rd:Option (List Int)) (i:Nat) (x:Rec),(recsR f j k rd).1[i]?=some x → NumRec f (k + i) x:=by
 intro j
 induction j with
 | zero=>intro k rd i x h;simp [recsR] at h
 | succ j ih=>
  intro k rd i x h
  cases i with
  | zero=>
   have:(recR f k rd).1=x:=by simpa [recsR] using h
   rw [← this]
   exact recR_num f k rd
  | succ i=>
   have h2:(recsR f j (k + 1) (recR f k rd).2).1[i]?=some x:=by simpa [recsR] using h
   have:=ih (k + 1) _ i x h2
   have e:k + 1 + i=k + (i + 1):=by omega
   rw [e] at this
   exact this

theorem numsR_num:∀ (j:Nat) (rd:Option (List Int)),∀ x ∈ (numsR j rd).1,0 ≤ x ∧ x ≤ 16:=by
 intro j
 induction j with
 | zero=>intro rd x h;simp [numsR] at h
 | succ j ih=>
  intro rd x h
  have h1:=numR_most 16 rd
  have h2:x=((numR 16 rd).1:Int) ∨ x ∈ (numsR j (numR 16 rd).2).1:=by simpa [numsR] using h
  rcases h2 with rfl | h2
  ·omega
  ·exact ih _ x h2

structure TxtOk (len:Nat) (T:Txt):Prop where
 vars:T.vars ≤ 16
 form:1 ≤ T.form ∧ T.form ≤ 5
 perm:T.perm.length=T.vars ∧ ∀ x ∈ T.perm,0 ≤ x ∧ x ≤ 16
 few:T.l.length ≤ len
 l:∀ (i:Nat) (x:Rec),T.l[i]?=some x → NumRec (T.form:Int) i x
 e:NumE T.l.length T.e

theorem readB_ok {b:List Int} {T:Txt} (h:readB b=some T):TxtOk b.length T:=by
 have h1:=numR_most 16 (some b)
 have h2:=numR_most 5 (numR 16 (some b)).2
 have h3:=numR_most b.length (numsR (numR 16 (some b)).1 (numR 5 (numR 16 (some b)).2).2).2
 unfold readB at h
 simp only [] at h
 split at h
 ·rename_i hc
  cases h
  refine ⟨h1,⟨hc.2,h2⟩,⟨numsR_len _ _,numsR_num _ _⟩,by rw [recsR_len];exact h3,fun i x hx=>?_,?_⟩
  ·have:=recsR_num _ _ _ _ i x hx
   rw [Nat.zero_add] at this
   exact this
  ·show NumE (List.length _) _
   rw [recsR_len]
   exact edgeR_num _ _ _
 ·cases h

structure PutAt (l:List Rec) (M0:St) (i:Nat) (M:St) (ids:List Int):Prop where
 len:ids.length=i
 all:putL l M0 []=putL (l.drop i) M ids
 wf:M.wf
 ext:Ext M0 M
 room:M.room=M0.room
 most:M.len ≤ M0.len + (i:Int)
 ids:∀ x ∈ ids,look M.cs x ≠ none

theorem PutAt.start {M0:St} (h:M0.wf) (l:List Rec):PutAt l M0 0 M0 []:=⟨rfl,rfl,h,Ext.refl M0,rfl,by omega,by simp⟩

theorem drop_some {α:Type} {l:List α} {i:Nat} {x:α} (h:l[i]?=some x):l.drop i=x :: l.drop (i + 1):=by
 obtain ⟨hi,he⟩:=List.getElem?_eq_some_iff.1 h
 rw [List.drop_eq_getElem_cons hi,he]

theorem PutAt.next {l:List Rec} {M0:St} {i:Nat} {M:St} {ids:List Int} (h:PutAt l M0 i M ids) {x:Rec} (hx:l[i]?=some x) (he:M.findErr (atRec ids x)=0):PutAt l M0 (i + 1) (M.findSt (atRec ids x)) (ids ++ [M.findId (atRec ids x)]):=by
 refine ⟨by rw [List.length_append,h.len];rfl,?_,h.wf.find _,h.ext.trans (findSt_ext h.wf _),(findSt_room M _).trans h.room,?_,?_⟩
 ·rw [h.all,drop_some hx]
  conv=>lhs;unfold putL
  rw [if_pos he]
 ·have:=(findSt_len M (atRec ids x)).2
  have:=h.most
  push_cast
  omega
 ·intro y hy
  rcases List.mem_append.1 hy with hy | hy
  ·cases hl:look M.cs y with
   | none=>exact absurd hl (h.ids y hy)
   | some r=>rw [(findSt_ext h.wf _).sub y r hl];simp
  ·rw [List.mem_singleton] at hy
   rw [hy,find_zero2 h.wf he]
   simp

theorem PutAt.bad {l:List Rec} {M0:St} {i:Nat} {M:St} {ids:List Int} (h:PutAt l M0 i M ids) {x:Rec} (hx:l[i]?=some x) (he:M.findErr (atRec ids x) ≠ 0):putL l M0 []=(M.findErr (atRec ids x),M,ids):=by
 rw [h.all,drop_some hx]
 conv=>lhs;unfold putL
 rw [if_neg he]

theorem PutAt.end {l:List Rec} {M0:St} {M:St} {ids:List Int} (h:PutAt l M0 l.length M ids):putL l M0 []=(0,M,ids):=by
 rw [h.all,List.drop_length]
 rfl

theorem id_range {M:St} (h:M.wf) (hc:M.cs.length ≤ 4294967293) {x:Int} (hx:look M.cs x ≠ none):2 ≤ x ∧ x ≤ 4294967295:=by
 cases hl:look M.cs x with
 | none=>exact absurd hl hx
 | some r=>
  obtain ⟨a,b,c⟩:=look_some hl
  have:=(List.getElem?_eq_some_iff.1 c).1
  omega

open Go Go.RowKit

def RowN (w:World) (g n:Nat) (ids:List Int):Prop:=∃ cur:Array Value,w.heap[g]?=some (.cells cur 35 (0,0)) ∧ ∀ j,j < n → cur[j]?=some (Value.int .u32 ((ids[j]?).getD 0))

theorem RowN.cell {w:World} {g n:Nat} {ids:List Int} (h:RowN w g n ids) (j:Nat) (hj:j < n):w.cell? ⟨g,j,none⟩=some (.int .u32 ((ids[j]?).getD 0)):=by
 obtain ⟨cur,h1,h2⟩:=h
 rw [cell_of_row w g j _ _ _ h1]
 simp only [h2 j hj]

theorem RowN.frozen {w:World} {g n:Nat} {ids:List Int} (h:RowN w g n ids) (j:Nat):w.frozen? ⟨g,j,none⟩=false:=by
 obtain ⟨cur,h1,h2⟩:=h
 exact frozen_of_row w g j _ _ h1

theorem RowN.lt {w:World} {g n:Nat} {ids:List Int} (h:RowN w g n ids):g < w.heap.size:=by
 obtain ⟨cur,h1,h2⟩:=h
 exact lt_of_heap h1

theorem RowN.upd {G:Nat → Prop} {w w':World} {g n:Nat} {ids:List Int} (h:RowN w g n ids) (hu:Upd G w w') (hg:¬ G g):RowN w' g n ids:=by
 have hl:=h.lt
 obtain ⟨cur,h1,h2⟩:=h
 exact ⟨cur,(hu.block g hl hg).trans h1,h2⟩

theorem RowN.snoc {w:World} {g n:Nat} {ids:List Int} (h:RowN w g n ids) {i:Nat} (hi:ids.length=i) (hn:i < n) (y:Int):RowN (w.setCell ⟨g,i,none⟩ (.int .u32 y)) g n (ids ++ [y]):=by
 obtain ⟨cur,h1,h2⟩:=h
 refine ⟨_,Go.heap_setCell_same w g i _ _ (.int .u32 y) h1,fun j hj=>?_⟩
 rw [Array.getElem?_setIfInBounds]
 by_cases hij:i=j
 ·subst hij
  have hs:i < cur.size:=(Array.getElem?_eq_some_iff.1 (h2 i hj)).1
  rw [if_pos rfl,if_pos hs,List.getElem?_append_right (by omega),hi]
  simp
 ·rw [if_neg hij,h2 j hj]
  by_cases hlt:j < i
  ·rw [List.getElem?_append_left (by omega)]
  ·rw [List.getElem?_eq_none (by omega),List.getElem?_eq_none (by rw [List.length_append,List.length_singleton];omega)]

theorem rowN_made {w:World} {lo g n cap:Nat} (hown:w.ownsRow lo 35 1 (.slice (some ⟨g,0,none⟩) n cap) n (List.replicate n (.int .u32 0))):RowN w g n []:=by
 obtain ⟨cur0,hcur0⟩:=owns_type hown (k:=g) rfl
 rcases hown.2 with ⟨h0,_⟩ | ⟨g',cap',cur,hv,hb,hg,_,_,hs,ht⟩
 ·cases h0
 ·cases hv
  refine ⟨cur,hg,fun j hj=>?_⟩
  have h1:(List.replicate n (Value.int .u32 0))[j]?=some (.int .u32 0):=by rw [List.getElem?_replicate,if_pos hj]
  rw [← ht,List.getElem?_take] at h1
  split at h1
  ·rw [Array.getElem?_toList] at h1
   exact h1
  ·cases h1

theorem rowN_made2 {w:World} {lo blk n:Nat} (h:w.ownsRow lo 35 1 (.slice (some ⟨blk,0,none⟩) n n) n (madeCells (Value.int .u32 0).cells (n * 1)).toList):RowN w blk n []:=by
 have e:(madeCells (Value.int .u32 0).cells (n * 1)).toList=List.replicate n (.int .u32 0):=by
  rw [Nat.mul_one]
  simp [madeCells,Value.cells,Nat.mod_one]
  rw [List.map_const',List.length_range]
 rw [e] at h
 exact rowN_made h

structure IdsAt (w:World) (ib a n:Nat) (ids:List Int):Prop where
 box:w.cell? ⟨ib,0,none⟩=some (.slice (some ⟨a,0,none⟩) n n)
 row:RowN w a n ids

theorem IdsAt.keeps {w w':World} {ib a n:Nat} {ids:List Int} (h:IdsAt w ib a n ids) (hk:Keeps w w'):IdsAt w' ib a n ids:=
 ⟨hk.cell h.box,h.row.upd (hk.upd (fun _=>False)) (fun h=>h)⟩

theorem IdsAt.upd {w w':World} {ib a n:Nat} {ids:List Int} {G:Nat → Prop} (h:IdsAt w ib a n ids) (hu:Upd G w w') (h1:¬ G ib) (h2:¬ G a):IdsAt w' ib a n ids:=
 ⟨hu.cellAt h1 h.box,h.row.upd hu h2⟩

set_option maxRecDepth 100000 in
theorem at1_calls {w:World} {ib a n:Nat} {ids:List Int} (h:IdsAt w ib a n ids) (e:Edge) (he:e.ok) (hn:2 ≤ e.to → (e.to - 2).toNat < n) (hs:n ≤ 1073741824) :
  Calls Tryz.prog 84 #[.agg #[.int .u8 e.tag,.int .u32 e.to],.pointer (some ⟨ib,0,none⟩)] w fun r w'=>r=.returned (.agg #[.int .u8 (atR ids e).tag,.int .u32 (atR ids e).to]) ∧ Keeps w w':=by
 have hb:=h.box
 have t0:=he.2.1
 have t1:=he.2.2
 have hlb:ib < w.heap.size:=lt_of_cell hb
 have hnb:w.heap.size ≠ ib:=by omega
 unfold atR
 by_cases h2:2 ≤ e.to
 ·rw [if_pos h2]
  obtain ⟨k,hk⟩:∃ k,k=(e.to - 2).toNat:=⟨_,rfl⟩
  have hkn:k < n:=by rw [hk];exact hn h2
  have hr:=h.row.cell k hkn
  have hla:a < w.heap.size:=lt_of_cell hr
  rw [← hk]
  have hto:e.to=(k:Int) + 2:=by omega
  obtain ⟨t,v⟩:=e
  simp only at hto h2 t0 t1 ⊢
  subst hto
  obtain ⟨y,hy⟩:∃ y,y=(ids[k]?).getD 0:=⟨_,rfl⟩
  rw [← hy] at hr ⊢
  have i1:(k:Int) < (n:Int):=by omega
  have hwr:IntKind.u32.wrap ((k:Int) + 2 - 2)=(k:Int):=by
   have e1:(k:Int) + 2 - 2=(k:Int):=by omega
   rw [e1]
   have e2:(k:Int) % 4294967296=(k:Int):=by omega
   unfold IntKind.wrap
   simp [IntKind.signed,IntKind.bits,e2]
  clear h hn hk hy
  go_enter Tryz.func84,Tryz.ntmps84
  go_wp2
  refine bodyPost_ret (v:=.agg #[.int .u8 (⟨t,y⟩:Edge).tag,.int .u32 (⟨t,y⟩:Edge).to]) (by simp [results,Tryz.results84,go_sem]) rfl ⟨rfl,by (exact kp)⟩
 ·rw [if_neg h2]
  obtain ⟨t,v⟩:=e
  simp only at h2 t0 t1 ⊢
  clear h hn
  go_enter Tryz.func84,Tryz.ntmps84
  go_wp2
  refine bodyPost_ret (v:=.agg #[.int .u8 (⟨t,v⟩:Edge).tag,.int .u32 (⟨t,v⟩:Edge).to]) (by simp [results,Tryz.results84,go_sem]) rfl ⟨rfl,by (exact kp)⟩

def PutOut (F:Nat → Prop) (w:World) (sb:Nat) (M:St) (l:List Rec) (e:Edge) (r:Ending) (w':World):Prop:=
 ∃ (er:Int) (M':St) (ids:List Int) (F':Nat → Prop) (x:Edge),putL l M []=(er,M',ids) ∧ r=.returned (.tuple #[.agg #[.int .u8 x.tag,.int .u32 x.to],.int .u8 er]) ∧ x=(if er=0 then atR ids e else ⟨0,0⟩) ∧ Upd F w w' ∧ StoreRep F' w' sb M' ∧ (∀ j,F' j → F j ∨ w.heap.size ≤ j)

theorem atRec_ok {ids:List Int} {f:Int} {i:Nat} {x:Rec} (h:NumRec f i x) (hf:0 ≤ f ∧ f ≤ 255) (hi:i ≤ 1073741824) (hids:∀ y ∈ ids,2 ≤ y ∧ y ≤ 4294967295):(atRec ids x).ok ∧ x.ok:=by
 have key:∀ e:Edge,NumE i e → (atR ids e).ok ∧ e.ok:=fun e he=>by
  have ht:=he.tag
  have ha:=he.at'
  have ho:e.ok:=⟨⟨ht.1,by omega⟩,ha.1,by omega⟩
  refine ⟨?_,ho⟩
  unfold atR
  split
  ·refine ⟨⟨ht.1,by show e.tag ≤ 255;omega⟩,?_⟩
   show 0 ≤ (ids[(e.to - 2).toNat]?).getD 0 ∧ (ids[(e.to - 2).toNat]?).getD 0 ≤ 4294967295
   cases hg:ids[(e.to - 2).toNat]? with
   | none=>exact ⟨by decide,by decide⟩
   | some y=>have:=hids y (List.mem_of_getElem? hg);exact ⟨by show 0 ≤ y;omega,this.2⟩
  ·exact ho
 have hff:=h.form
 have htt:=h.top
 have hbb:=h.bot
 obtain ⟨a1,a2⟩:=key x.lo h.lo
 obtain ⟨b1,b2⟩:=key x.hi h.hi
 exact ⟨⟨by show 0 ≤ x.form ∧ x.form ≤ 255;omega,by show 0 ≤ x.top ∧ x.top ≤ 255;omega,by show 0 ≤ x.bot ∧ x.bot ≤ 255;omega,a1,b1⟩,⟨by omega,by omega,by omega,a2,b2⟩⟩

theorem find_still {M:St} {r:Rec} (h:M.findErr r ≠ 0):M.findSt r=M:=by
 unfold St.findErr at h
 unfold St.findSt
 cases hi:M.idOf r with
 | some _=>rfl
 | none=>
  rw [hi] at h
  simp only [] at h ⊢
  split
  ·rfl
  ·rename_i h1
   rw [if_neg h1] at h
   split
   ·rfl
   ·rename_i h2
    rw [if_neg h2] at h
    exact absurd rfl h

theorem TxtRep.recs {base:Nat} {W:World} {tb:Nat} {n f k:Int} {perm:List Int} {l:List Rec} {e:Edge} {la:Option Addr} {lcap:Nat} (hT:TxtRep base W tb n f perm k l e) (h4:W.cell? ⟨tb,4,none⟩=some (.slice la l.length lcap)) {i:Nat} {x:Rec} (hx:l[i]?=some x) :
  ∃ g,la=some ⟨g,0,none⟩ ∧ ∀ j,j < 7 → W.cell? ⟨g,i * 7 + j,none⟩=(recVals x)[j]?:=by
 obtain ⟨⟨pv,lv,h1,h2,h3⟩,hb⟩:=hT
 have e4:W.cell? ⟨tb,4,none⟩=some lv:=by rw [cell_of_row W tb 4 _ _ _ h1];rfl
 rw [e4] at h4
 cases h4
 have hi:=(List.getElem?_eq_some_iff.1 hx).1
 obtain ⟨g,cap,hg⟩:=owns_shape h3 (by omega)
 cases hg
 refine ⟨g,rfl,fun j hj=>?_⟩
 have hc:=World.ownsRow.cellAt h3 (j:=i * 7 + j) (by
  have:(i + 1) * 7 ≤ l.length * 7:=Nat.mul_le_mul_right _ hi
  omega)
 rw [hc]
 exact flat_get recVals 7 (fun x=>rfl) l i j x hx hj

set_option maxRecDepth 100000 in
set_option maxHeartbeats 2000000 in
theorem textPut_calls {base:Nat} {F:Nat → Prop} {w:World} {sb tb:Nat} {M:St} {n f k form:Int} {perm:List Int} {l:List Rec} {e:Edge} (hS:StoreRep F w sb M) (hd:∀ W,Upd F w W → TxtRep base W tb n f perm k l e) (htb:¬ F tb) (hl:∀ i x,l[i]?=some x → NumRec form i x) (he:NumE l.length e) (hf:0 ≤ form ∧ form ≤ 255) (hlen:l.length ≤ 1048576) :
  Calls Tryz.prog 41 #[.pointer (some ⟨tb,0,none⟩),.pointer (some ⟨sb,0,none⟩)] w (PutOut F w sb M l e):=by
 obtain ⟨la,lcap,c4⟩:∃ la lcap,w.cell? ⟨tb,4,none⟩=some (.slice la l.length lcap):=by
  obtain ⟨⟨pv,lv,h1,h2,h3⟩,h4⟩:=hd w (Upd.refl _ _)
  obtain ⟨la,lcap,rfl,_⟩:=owns_slice h3
  exact ⟨la,lcap,by rw [cell_of_row w tb 4 _ _ _ h1];rfl⟩
 have tlt:tb < w.heap.size:=lt_of_cell c4
 have HC4:=Lib.hid c4
 have HST:=Lib.hid hS
 have HD:=Lib.hid hd
 have HL:=Lib.hid hl
 have HE:=Lib.hid he
 obtain ⟨N,hN⟩:∃ N,N=l.length:=⟨_,rfl⟩
 rw [← hN] at c4 hlen
 have HN:=Lib.hid hN
 have HFlt:=Lib.hid hS.lt
 clear hS hd hl he hN
 obtain ⟨j0,hj,jz0,jz1,jz2⟩:=info_parts info_u32
 go_enter Tryz.func41,Tryz.ntmps41
 go_wp2_with (first
  | (at_make;refine wpList_make_full _ rfl _ _ 49 rfl (w.heap.size + 1) 35 j0 (.int .u32 0) 1 Tryz.underlying49 hj jz0 jz1 .i64 .i64 (N:Int) (N:Int) N rfl rfl rfl rfl (by rw [jz2];omega) (by unfold maxLen;omega) (by simp) ?_;intro w1 hown1 hg1;have hk1:Keeps (w.alloc (.cells #[.int .u8 0,.int .u32 0] 37)) w1:=⟨hg1.os,hg1.tape,hg1.output,hg1.size,fun i hi=>hg1.block i hi (by simp)⟩;have y4:=hk1.cell (((Keeps.refl w).alloc _).cell c4);have s1:=hk1.size;(try simp only [World.size_alloc] at s1);have tl1:tb < w1.heap.size:=(by omega))
  | fail)
 have z0:w1.cell? ⟨w.heap.size,0,none⟩=some (.int .u8 0):=hk1.cell (by simp [go_sem])
 have z1:w1.cell? ⟨w.heap.size,1,none⟩=some (.int .u32 0):=hk1.cell (by simp [go_sem])
 have zf:∀ o:Nat,w1.frozen? ⟨w.heap.size,o,none⟩=false:=fun o=>hk1.frz (a:=⟨w.heap.size,o,none⟩) (by show w.heap.size < _;simp) (by simp [go_sem])
 have hr1:RowN w1 (w.heap.size + 1) N []:=by have q:=rowN_made2 hown1;rwa [World.size_alloc] at q
 have lA:=hr1.lt
 obtain ⟨W2,hW2⟩:∃ W2,W2=w1.alloc (.cells #[.slice (some ⟨w.heap.size + 1,0,none⟩) N N] 49):=⟨_,rfl⟩
 have hk2:Keeps w1 W2:=by rw [hW2];exact (Keeps.refl w1).alloc _
 have hI:IdsAt W2 w1.heap.size (w.heap.size + 1) N []:=⟨by rw [hW2];simp [go_sem],hr1.upd (hk2.upd (fun _=>False)) (fun h=>h)⟩
 have hkk:Keeps w W2:=((Keeps.refl w).alloc _ |>.trans hk1).trans hk2
 replace z0:=hk2.cell z0
 replace z1:=hk2.cell z1
 replace zf:=fun o:Nat=>hk2.frz (a:=⟨w.heap.size,o,none⟩) (by show w.heap.size < _;omega) (zf o)
 have s2:W2.heap.size=w1.heap.size + 1:=by rw [hW2];simp
 have HS2:=Lib.hid (HST.out.keeps hkk)
 have HI2:=Lib.hid hI
 have HKK:=Lib.hid hkk
 rw [← hW2]
 clear hW2 hk2 hk1 hg1 hown1 hr1 hI hkk y4
 obtain ⟨ib,hib⟩:∃ ib,ib=w1.heap.size:=⟨_,rfl⟩
 rw [← hib] at HI2 s1 s2 tl1 lA ⊢
 clear hib c4
 go_loopg [24] N (fun gk s24 wr=>∃ (i:Nat) (M1:St) (ids:List Int) (F1:Nat → Prop),s24=.int .i64 (i:Int) ∧ i + gk=N ∧ PutAt l M i M1 ids ∧ StoreRep F1 wr sb M1 ∧ (∀ j,F1 j → F j ∨ W2.heap.size ≤ j) ∧ IdsAt wr ib (w.heap.size + 1) N ids ∧ Upd (fun j=>F j ∨ j=w.heap.size + 1) W2 wr)
 case atStart=>exact ⟨0,M,[],F,rfl,by omega,PutAt.start HST.out.wf _,HS2.out,fun j hj=>.inl hj,HI2.out,Upd.refl _ _⟩
 case round=>
  obtain ⟨i,M1,ids,F1,rfl,hi,hA,hS1,hF1,hI,hU⟩:=hrel
  have hu0:Upd F w wr:=((HKK.out.upd F)).later hU (fun j hj hh=>hh.elim (fun h=>h) (fun h=>by omega))
  have hTr:=HD.out wr hu0
  have e5:=hTr.cells.2.2.2.1
  have e6:=hTr.cells.2.2.2.2.1
  have nb4:¬ (F w.heap.size ∨ w.heap.size=w.heap.size + 1):=fun h=>h.elim (fun h=>by have:=HFlt.out _ h;omega) (fun h=>by omega)
  have sr:=hU.size
  have r0:=hU.cellAt nb4 z0
  have r1:=hU.cellAt nb4 z1
  have rf:=fun o:Nat=>hU.frzAt (by omega) nb4 (zf o)
  have F1lt:=hS1.lt
  have hfew:=hS1.few
  have hids:∀ y ∈ ids,2 ≤ y ∧ y ≤ 4294967295:=fun y hy=>id_range hA.wf (by omega) (hA.ids y hy)
  have HIDS:=Lib.hid hids
  have HA:=Lib.hid hA
  have HS1:=Lib.hid hS1
  have HF1:=Lib.hid hF1
  have HI:=Lib.hid hI
  have HU:=Lib.hid hU
  have HU0:=Lib.hid hu0
  have HTR:=Lib.hid hTr
  have HF1LT:=Lib.hid F1lt
  have nF1:∀ j,w.heap.size ≤ j → j < W2.heap.size → ¬ F1 j:=fun j h1 h2 hh=>(hF1 j hh).elim (fun h=>by have:=HFlt.out _ h;omega) (fun h=>by omega)
  have NF1:=Lib.hid nF1
  clear hids hfew hA hS1 hF1 hI hU hu0 hTr F1lt nF1
  by_cases hlt:i < N
  ·obtain ⟨x,hx⟩:∃ x,l[i]?=some x:=⟨_,List.getElem?_eq_getElem (by rw [← HN.out];exact hlt)⟩
   have hnr:=HL.out i x hx
   obtain ⟨hok2,hok⟩:=atRec_ok hnr hf (by omega) HIDS.out
   have h4w:wr.cell? ⟨tb,4,none⟩=some (.slice la l.length lcap):=HU0.out.cellAt htb HC4.out
   obtain ⟨g,rfl,hc⟩:=HTR.out.recs h4w hx
   have hsv:=fun j hj=>(hc j hj).trans (List.getElem?_eq_getElem (show j < (recVals x).length from hj))
   have v0:wr.cell? ⟨g,i * 7,none⟩=some (.int .u8 x.form):=hsv 0 (by omega)
   have v1:wr.cell? ⟨g,i * 7 + 1,none⟩=some (.int .u8 x.top):=hsv 1 (by omega)
   have v2:wr.cell? ⟨g,i * 7 + 2,none⟩=some (.int .u8 x.bot):=hsv 2 (by omega)
   have v3:wr.cell? ⟨g,i * 7 + 3,none⟩=some (.int .u8 x.lo.tag):=hsv 3 (by omega)
   have v4:wr.cell? ⟨g,i * 7 + 4,none⟩=some (.int .u32 x.lo.to):=hsv 4 (by omega)
   have v5:wr.cell? ⟨g,i * 7 + 5,none⟩=some (.int .u8 x.hi.tag):=hsv 5 (by omega)
   have v6:wr.cell? ⟨g,i * 7 + 6,none⟩=some (.int .u32 x.hi.to):=hsv 6 (by omega)
   have i1:(i:Int) < (N:Int):=by omega
   have hg0:g < wr.heap.size:=lt_of_cell v0
   have HA3:=Lib.hid (fun (W:World) (hW:Keeps wr W)=>at1_calls (HI.out.keeps hW) x.lo hok.lo (fun h2=>by have:=hnr.lo.at'.2;omega) (by omega))
   have HA7:=Lib.hid (fun (W:World) (hW:Keeps wr W)=>at1_calls (HI.out.keeps hW) x.hi hok.hi (fun h2=>by have:=hnr.hi.at'.2;omega) (by omega))
   have HFI:=Lib.hid (fun (W:World) (hW:StoreRep F1 W sb M1)=>store_find hW (atRec ids x) hok2)
   have HNX:Hid (M1.findErr (atRec ids x)=0 → PutAt l M (i + 1) (M1.findSt (atRec ids x)) (ids ++ [M1.findId (atRec ids x)])):=Lib.hid (fun h=>HA.out.next hx h)
   have HBD:Hid (M1.findErr (atRec ids x) ≠ 0 → putL l M []=(M1.findErr (atRec ids x),M1,ids)):=Lib.hid (fun h=>HA.out.bad hx h)
   have HSM:Hid (M1.findErr (atRec ids x) ≠ 0 → M1.findSt (atRec ids x)=M1):=Lib.hid (fun h=>find_still h)
   have hat:atRec ids x=⟨x.form,x.top,x.bot,atR ids x.lo,atR ids x.hi⟩:=rfl
   rw [hat] at HFI HNX HBD HSM
   obtain ⟨lo2,hlo2⟩:∃ q,q=atR ids x.lo:=⟨_,rfl⟩
   obtain ⟨hi2,hhi2⟩:∃ q,q=atR ids x.hi:=⟨_,rfl⟩
   rw [← hlo2] at HA3 HFI HNX HBD HSM
   rw [← hhi2] at HA7 HFI HNX HBD HSM
   obtain ⟨id,hid⟩:∃ q,q=M1.findId ⟨x.form,x.top,x.bot,lo2,hi2⟩:=⟨_,rfl⟩
   obtain ⟨er,her⟩:∃ q,q=M1.findErr ⟨x.form,x.top,x.bot,lo2,hi2⟩:=⟨_,rfl⟩
   obtain ⟨M2,hM2⟩:∃ q,q=M1.findSt ⟨x.form,x.top,x.bot,lo2,hi2⟩:=⟨_,rfl⟩
   rw [← hid,← her,← hM2] at HFI
   rw [← hid,← her,← hM2] at HNX
   rw [← her] at HBD
   rw [← her,← hM2] at HSM
   clear hsv hc h4w hnr hok2 hok hat hlo2 hhi2 hid her hM2 hx e5 e6
   go_wp2_with fail
   obtain ⟨Wa,hWa⟩:∃ W,W=wr.alloc (.cells #[.int .u8 x.form,.int .u8 x.top,.int .u8 x.bot,.int .u8 x.lo.tag,.int .u32 x.lo.to,.int .u8 x.hi.tag,.int .u32 x.hi.to] 87):=⟨_,rfl⟩
   have hB:RecBox Wa wr.heap.size x:=by rw [hWa];exact ⟨heap_alloc_new wr _⟩
   have hkw:Keeps wr Wa:=by rw [hWa];exact (Keeps.refl wr).alloc _
   rw [← hWa]
   clear hWa v0 v1 v2 v3 v4 v5 v6
   go_cut [] (fun wx=>RecBox wx wr.heap.size ⟨x.form,x.top,x.bot,lo2,hi2⟩ ∧ Keeps wr wx)
   case first=>
    refine wp_region_any (by kernel_rfl) ?_
    obtain ⟨W9,hW9⟩:∃ W9,W9=Wa.drew:=⟨_,rfl⟩
    have hkd:Keeps Wa W9:=by rw [hW9];exact (Keeps.refl Wa).drew
    replace hB:=hB.upd (hkd.upd (fun _=>False)) (fun h=>h)
    replace hkw:=hkw.trans hkd
    show wpAny Tryz.prog .any _ _ _ _ _ Wa.drew
    rw [← hW9]
    clear hW9 hkd
    obtain ⟨q0,q1,q2,q3,q4,q5,q6,qf⟩:=hB.cells
    refine wpAny_take (i:=0) (v:=?_) rfl (by kernel_rfl) (by kernel_rfl) (by kernel_rfl) (fun _ _ _ h=>h) (Or.inl ⟨by rfl,?_⟩) ?_
    rotate_left
    ·intro w;go_simp;try with_reducible rfl
    refine wpAny_take (i:=1) (v:=?_) rfl (by kernel_rfl) (by kernel_rfl) (by kernel_rfl) (fun _ _ _ h=>h) (Or.inl ⟨by rfl,?_⟩) ?_
    rotate_left
    ·intro w;go_simp;try with_reducible rfl
    refine wpAny_take (i:=4) (v:=?_) rfl (by kernel_rfl) (by kernel_rfl) (by kernel_rfl) (fun _ _ _ h=>h) (Or.inl ⟨by rfl,?_⟩) ?_
    rotate_left
    ·intro w;go_simp;try with_reducible rfl
    refine wpAny_take (i:=5) (v:=?_) rfl (by kernel_rfl) (by kernel_rfl) (by kernel_rfl) (fun _ _ _ h=>h) (Or.inl ⟨by rfl,?_⟩) ?_
    rotate_left
    ·intro w;go_simp;try with_reducible rfl
    refine wpAny_ready (rs:=[2,6]) (by kernel_rfl) (by decide) (AllReady.cons rfl (fun K hK=>?_) (AllReady.cons rfl (fun K hK=>?_) AllReady.nil))
    ·go_simp
     refine hK _ _ ?_
     clear hK K
     refine wpAny_ready (rs:=[3,6]) (by kernel_rfl) (by decide) (AllReady.cons rfl (fun K hK=>?_) (AllReady.cons rfl (fun K hK=>?_) AllReady.nil))
     ·go_simp
      refine (HA3.out _ (by (exact kp))).mono ?_
      rintro e' w3 ⟨rfl,hk3⟩
      replace hB:=hB.upd (hk3.upd (fun _=>False)) (fun h=>h)
      obtain ⟨q0,q1,q2,q3,q4,q5,q6,qf⟩:=hB.cells
      replace hkw:=hkw.trans hk3
      refine hK _ _ ?_
      clear hK K
      refine wpAny_ready (rs:=[6]) (by kernel_rfl) (by decide) (AllReady.cons rfl (fun K hK=>?_) AllReady.nil)
      go_simp
      refine hK _ _ ?_
      clear hK K
      refine wpAny_take (i:=8) (v:=?_) rfl (by kernel_rfl) (by kernel_rfl) (by kernel_rfl) (fun _ _ _ h=>h) (Or.inl ⟨by rfl,?_⟩) ?_
      rotate_left
      ·intro w;go_simp;try with_reducible rfl
      refine wpAny_ready (rs:=[7]) (by kernel_rfl) (by decide) (AllReady.cons rfl (fun K hK=>?_) AllReady.nil)
      go_simp
      refine (HA7.out _ (by (exact kp))).mono ?_
      rintro e' w7 ⟨rfl,hk7⟩
      replace hB:=hB.upd (hk7.upd (fun _=>False)) (fun h=>h)
      obtain ⟨q0,q1,q2,q3,q4,q5,q6,qf⟩:=hB.cells
      replace hkw:=hkw.trans hk7
      refine hK _ _ ?_
      clear hK K
      refine wpAny_ready (rs:=[9]) (by kernel_rfl) (by decide) (AllReady.cons rfl (fun K hK=>?_) AllReady.nil)
      go_simp
      refine hK _ _ ?_
      clear hK K
      refine wpAny_take (i:=10) (v:=?_) rfl (by kernel_rfl) (by kernel_rfl) (by kernel_rfl) (fun _ _ _ h=>h) (Or.inl ⟨by rfl,?_⟩) ?_
      rotate_left
      ·intro w;go_simp;try with_reducible rfl
      refine wpAny_ready (rs:=[11]) (by kernel_rfl) (by decide) (AllReady.cons rfl (fun K hK=>?_) AllReady.nil)
      go_simp
      refine hK _ _ ?_
      clear hK K
      refine wpAny_done (by kernel_rfl) ?_ _
      go_wp2_with fail
      go_meet
      exact ⟨(hB.setLo lo2).setHi hi2,hkw.new ((updX2 w7 wr.heap.size 3 4 _ _).trans' (updX2 _ wr.heap.size 5 6 _ _)) (fun k hk=>by omega)⟩
     ·go_simp
      refine hK _ _ ?_
      clear hK K
      refine wpAny_ready (rs:=[3]) (by kernel_rfl) (by decide) (AllReady.cons rfl (fun K hK=>?_) AllReady.nil)
      go_simp
      refine (HA3.out _ (by (exact kp))).mono ?_
      rintro e' w3 ⟨rfl,hk3⟩
      replace hB:=hB.upd (hk3.upd (fun _=>False)) (fun h=>h)
      obtain ⟨q0,q1,q2,q3,q4,q5,q6,qf⟩:=hB.cells
      replace hkw:=hkw.trans hk3
      refine hK _ _ ?_
      clear hK K
      refine wpAny_take (i:=8) (v:=?_) rfl (by kernel_rfl) (by kernel_rfl) (by kernel_rfl) (fun _ _ _ h=>h) (Or.inl ⟨by rfl,?_⟩) ?_
      rotate_left
      ·intro w;go_simp;try with_reducible rfl
      refine wpAny_ready (rs:=[7]) (by kernel_rfl) (by decide) (AllReady.cons rfl (fun K hK=>?_) AllReady.nil)
      go_simp
      refine (HA7.out _ (by (exact kp))).mono ?_
      rintro e' w7 ⟨rfl,hk7⟩
      replace hB:=hB.upd (hk7.upd (fun _=>False)) (fun h=>h)
      obtain ⟨q0,q1,q2,q3,q4,q5,q6,qf⟩:=hB.cells
      replace hkw:=hkw.trans hk7
      refine hK _ _ ?_
      clear hK K
      refine wpAny_ready (rs:=[9]) (by kernel_rfl) (by decide) (AllReady.cons rfl (fun K hK=>?_) AllReady.nil)
      go_simp
      refine hK _ _ ?_
      clear hK K
      refine wpAny_take (i:=10) (v:=?_) rfl (by kernel_rfl) (by kernel_rfl) (by kernel_rfl) (fun _ _ _ h=>h) (Or.inl ⟨by rfl,?_⟩) ?_
      rotate_left
      ·intro w;go_simp;try with_reducible rfl
      refine wpAny_ready (rs:=[11]) (by kernel_rfl) (by decide) (AllReady.cons rfl (fun K hK=>?_) AllReady.nil)
      go_simp
      refine hK _ _ ?_
      clear hK K
      refine wpAny_done (by kernel_rfl) ?_ _
      go_wp2_with fail
      go_meet
      exact ⟨(hB.setLo lo2).setHi hi2,hkw.new ((updX2 w7 wr.heap.size 3 4 _ _).trans' (updX2 _ wr.heap.size 5 6 _ _)) (fun k hk=>by omega)⟩
    ·go_simp
     refine hK _ _ ?_
     clear hK K
     refine wpAny_ready (rs:=[2]) (by kernel_rfl) (by decide) (AllReady.cons rfl (fun K hK=>?_) AllReady.nil)
     go_simp
     refine hK _ _ ?_
     clear hK K
     refine wpAny_ready (rs:=[3]) (by kernel_rfl) (by decide) (AllReady.cons rfl (fun K hK=>?_) AllReady.nil)
     go_simp
     refine (HA3.out _ (by (exact kp))).mono ?_
     rintro e' w3 ⟨rfl,hk3⟩
     replace hB:=hB.upd (hk3.upd (fun _=>False)) (fun h=>h)
     obtain ⟨q0,q1,q2,q3,q4,q5,q6,qf⟩:=hB.cells
     replace hkw:=hkw.trans hk3
     refine hK _ _ ?_
     clear hK K
     refine wpAny_take (i:=8) (v:=?_) rfl (by kernel_rfl) (by kernel_rfl) (by kernel_rfl) (fun _ _ _ h=>h) (Or.inl ⟨by rfl,?_⟩) ?_
     rotate_left
     ·intro w;go_simp;try with_reducible rfl
     refine wpAny_ready (rs:=[7]) (by kernel_rfl) (by decide) (AllReady.cons rfl (fun K hK=>?_) AllReady.nil)
     go_simp
     refine (HA7.out _ (by (exact kp))).mono ?_
     rintro e' w7 ⟨rfl,hk7⟩
     replace hB:=hB.upd (hk7.upd (fun _=>False)) (fun h=>h)
     obtain ⟨q0,q1,q2,q3,q4,q5,q6,qf⟩:=hB.cells
     replace hkw:=hkw.trans hk7
     refine hK _ _ ?_
     clear hK K
     refine wpAny_ready (rs:=[9]) (by kernel_rfl) (by decide) (AllReady.cons rfl (fun K hK=>?_) AllReady.nil)
     go_simp
     refine hK _ _ ?_
     clear hK K
     refine wpAny_take (i:=10) (v:=?_) rfl (by kernel_rfl) (by kernel_rfl) (by kernel_rfl) (fun _ _ _ h=>h) (Or.inl ⟨by rfl,?_⟩) ?_
     rotate_left
     ·intro w;go_simp;try with_reducible rfl
     refine wpAny_ready (rs:=[11]) (by kernel_rfl) (by decide) (AllReady.cons rfl (fun K hK=>?_) AllReady.nil)
     go_simp
     refine hK _ _ ?_
     clear hK K
     refine wpAny_done (by kernel_rfl) ?_ _
     go_wp2_with fail
     go_meet
     exact ⟨(hB.setLo lo2).setHi hi2,hkw.new ((updX2 w7 wr.heap.size 3 4 _ _).trans' (updX2 _ wr.heap.size 5 6 _ _)) (fun k hk=>by omega)⟩
   case rest=>
    obtain ⟨hB,hkw⟩:=hcut
    obtain ⟨q0,q1,q2,q3,q4,q5,q6,qf⟩:=hB.cells
    have HKW:=Lib.hid hkw
    have hsc:=hkw.size
    clear hB hkw
    by_cases he0:er=0
    ·have HNP:=Lib.hid (HNX.out he0)
     subst he0
     go_wp2_with (first | (go_at_call 32;refine (HFI.out _ (HS1.out.keeps HKW.out)).mono ?_;rintro e' w8 ⟨rfl,hu8,hS8⟩;have hI8:=HI.out.upd (G:=F1) ((HKW.out.upd F1).trans' hu8) (NF1.out ib (by omega) (by omega)) (NF1.out _ (by omega) (by omega));have y0:=hI8.box;have yc:=hI8.row.cell i hlt;have yf:=hI8.row.frozen i;have HI8:=Lib.hid (hI8.row.snoc (ids:=ids) (HA.out.len) hlt id);have HU8:=Lib.hid hu8;have HS8:=Lib.hid hS8;have hs8:=hu8.size;clear hI8 hu8 hS8) | fail)
     go_roundg (gk - 1)
     case rel=>
      refine ⟨i + 1,M2,ids ++ [id],Grow F1 wc w8,by simp,by omega,HNP.out,HS8.out.keep (updX w8 (w.heap.size + 1) i _) (fun k hk e=>?_),fun j hj=>?_,⟨(updX w8 (w.heap.size + 1) i _).cellAt (by omega) y0,HI8.out⟩,?_⟩
      ·have e2:k=w.heap.size + 1:=e
       rcases hk with hk | hk
       ·exact NF1.out k (by omega) (by omega) hk
       ·omega
      ·rcases hj with hj | hj
       ·exact HF1.out j hj
       ·exact .inr (by omega)
      ·exact ((HU.out.trans' (HKW.out.upd _)).later HU8.out (fun j h1 h2=>(HF1.out j h2).elim (fun h=>.inl h) (fun h=>by omega))).trans' ((updX w8 (w.heap.size + 1) i _).mono (fun k _ hk=>.inr hk))
     case measure=>omega
    ·have gne:(er != 0)=true:=by simp [he0]
     go_wp2_with (first | (go_at_call 32;refine (HFI.out _ (HS1.out.keeps HKW.out)).mono ?_;rintro e' w8 ⟨rfl,hu8,hS8⟩;have p0:=hu8.cellAt (NF1.out w.heap.size (by omega) (by omega)) (HKW.out.cell r0);have p1:=hu8.cellAt (NF1.out w.heap.size (by omega) (by omega)) (HKW.out.cell r1);have pf:=fun o:Nat=>hu8.frzAt (by omega) (NF1.out w.heap.size (by omega) (by omega)) (HKW.out.frz (a:=⟨w.heap.size,o,none⟩) (by show w.heap.size < _;omega) (rf o));have HU8:=Lib.hid hu8;have HS8:=Lib.hid hS8;have hs8:=hu8.size;clear hu8 hS8) | fail)
     refine bodyPost_ret (v:=.tuple #[.agg #[.int .u8 (⟨0,0⟩:Edge).tag,.int .u32 (⟨0,0⟩:Edge).to],.int .u8 er]) (by simp [results,Tryz.results41,go_sem,p0,p1]) rfl ?_
     have hS9:=HS8.out
     rw [HSM.out he0] at hS9
     refine ⟨er,M1,ids,Grow F1 wc w8,⟨0,0⟩,HBD.out he0,rfl,by rw [if_neg he0],((HU0.out.trans' (HKW.out.upd _)).later HU8.out (fun j h1 h2=>(HF1.out j h2).elim (fun h=>h) (fun h=>by omega))).fresh (updX2 w8 w.heap.size 0 1 _ _) (Nat.le_refl _),hS9.keep (updX2 w8 w.heap.size 0 1 _ _) (fun k hk e=>?_),fun j hj=>?_⟩
     ·have e2:k=w.heap.size:=e
      rcases hk with hk | hk
      ·exact NF1.out k (by omega) (by omega) hk
      ·omega
     ·rcases hj with hj | hj
      ·exact (HF1.out j hj).imp (fun h=>h) (fun h=>by omega)
      ·exact .inr (by omega)
  ·have hiN:i=N:=by omega
   have HX:Hid (putL l M []=(0,M1,ids)):=Lib.hid (by have q:=HA.out;rw [hiN,HN.out] at q;exact q.end)
   have HAT:=Lib.hid (fun (W:World) (hW:Keeps wr W)=>at1_calls (HI.out.keeps hW) e ⟨⟨HE.out.tag.1,by have:=HE.out.tag.2;omega⟩,HE.out.at'.1,by have:=HE.out.at'.2;have:=HN.out;omega⟩ (fun h2=>by have:=HE.out.at'.2;have:=HN.out;omega) (by omega))
   obtain ⟨x,hx⟩:∃ x,x=atR ids e:=⟨_,rfl⟩
   rw [← hx] at HAT
   have HXE:=Lib.hid hx
   have i1:¬ ((i:Int) < (N:Int)):=by omega
   clear hx
   go_wp2_with (first | (go_at_call 84;refine (HAT.out _ (by (exact kp))).mono ?_;rintro e' w5 ⟨rfl,hk5⟩;have r0':=hk5.cell r0;have r1':=hk5.cell r1;have hs5:=hk5.size;have rf':=fun o:Nat=>hk5.frz (a:=⟨w.heap.size,o,none⟩) (by show w.heap.size < _;omega) (rf o)) | fail)
   refine bodyPost_ret (v:=.tuple #[.agg #[.int .u8 x.tag,.int .u32 x.to],.int .u8 0]) (by simp [results,Tryz.results41,go_sem,r0',r1']) rfl ?_
   exact ⟨0,M1,ids,F1,x,HX.out,rfl,by rw [if_pos rfl];exact HXE.out,(HU0.out.trans' (hk5.upd F)).fresh (updX2 w5 w.heap.size 0 1 _ _) (Nat.le_refl _),(HS1.out.keeps hk5).keep (updX2 w5 w.heap.size 0 1 _ _) (fun k hk e=>by have e2:k=w.heap.size:=e;exact NF1.out k (by omega) (by omega) hk),fun j hj=>(HF1.out j hj).imp (fun h=>h) (fun h=>by omega)⟩

open Go.ChangeShapes Go.WideShapes Go.ChangeAt Go.RowKit

def IsInts (w:World) (a:Option Addr) (len:Nat) (ps:List Int):Prop:=ps.length=len ∧ IntsAt w a ps ∧ ∀ x ∈ ps,(Lit.int .i64 x).wf=true

set_option maxRecDepth 100000 in
theorem open_intRow {H:Type} {enc:TypeId × Value → H} {W:World} {base:Nat} {spare:Nat → Bool} {held:Bool} {a:Option Addr} {len cap:Nat} {d:DataW H} {p:List MemPlace}
  (h:DataW.Trod enc Tryz.prog W base spare held 23 (.slice a len cap) d p):∃ ps:List Int,IsInts W a len ps:=by
 obtain ⟨rs,h1,h2⟩:=open_structs (k:=1) (fun (r:Int) cs=>(Lit.int .i64 r).wf=true ∧ cs=[.int .i64 r]) Tryz.underlying23 (by kernel_rfl) (by decide) (fun n cs x hx=>by
  obtain ⟨r,h1,_,h2⟩:=DataW.trod_int Tryz.underlying3 hx
  exact ⟨by rw [h1];rfl,r,h2,h1⟩) h
 refine ⟨rs,h1,fun i r hr=>?_,fun x hx=>?_⟩
 ·obtain ⟨b,off,cs,ha,⟨hok,rfl⟩,hc⟩:=h2 i r hr
  have:=hc 0 (by decide)
  rw [Nat.mul_one,Nat.add_zero] at this
  exact ⟨b,off,ha,this⟩
 ·obtain ⟨i,hi⟩:=List.mem_iff_getElem?.1 hx
  obtain ⟨b,off,cs,ha,⟨hok,rfl⟩,hc⟩:=h2 i x hi
  exact hok

instance:Inhabited (Int × Edge):=⟨(0,Edge.zero)⟩

open Go.RowKit

theorem bitI_vb (X:Nat) (v:Int):bitI (bitB (X:Int) v)=(vb X v:Int):=by
 unfold vb
 cases bitB (X:Int) v <;> rfl

set_option maxRecDepth 100000 in
theorem down_calls (a:Option Addr) (cap:Nat) (ps:List Int) (w:World) (h:IntsAt w a ps) (hl:ps.length ≤ 16) (hr:∀ x ∈ ps,0 ≤ x ∧ x ≤ 16) (X:Nat) (hX:X ≤ 65535) :
  Calls Tryz.prog 117 #[.slice a ps.length cap,.int .i64 (X:Int)] w fun e w'=>e=.returned (.int .i64 (dnN X ps:Int)) ∧ w=w':=by
 obtain ⟨N,hN⟩:∃ N,N=ps.length:=⟨_,rfl⟩
 rw [← hN] at hl ⊢
 have H:=Lib.hid h
 have HN:=Lib.hid hN
 have HR:=Lib.hid hr
 clear h hN hr
 go_enter Tryz.func117,Tryz.ntmps117
 go_wp2
 go_loopg [5,6] N (fun gk s5 s6 wr=>∃ d:Nat,s5=.int .i64 (dnN X (ps.take d):Int) ∧ s6=.int .i64 (d:Int) ∧ d + gk=N ∧ w=wr)
 case atStart=>exact ⟨0,by simp [dnN],rfl,by omega,rfl⟩
 case round=>
  obtain ⟨d,rfl,rfl,hd,rfl⟩:=hrel
  obtain ⟨y,hy⟩:∃ y,y=dnN X (ps.take d):=⟨_,rfl⟩
  have hy16:y < 65536:=by
   have h1:=dnN_lt X (ps.take d)
   have h2:2 ^ (ps.take d).length ≤ 2 ^ 16:=Nat.pow_le_pow_right (by decide) (by rw [List.length_take];omega)
   have e16:(2:Nat) ^ 16=65536:=rfl
   omega
  rw [← hy]
  have HY:=Lib.hid hy
  clear hy
  by_cases hlt:d < N
  ·obtain ⟨x,hx⟩:∃ b,ps[d]?=some b:=⟨_,List.getElem?_eq_getElem (by rw [← HN.out];exact hlt)⟩
   obtain ⟨b,off,rfl,c0⟩:=H.out d x hx
   have hxr:=HR.out x (List.mem_of_getElem? hx)
   have htk:=take_snoc hx
   have hv:=fun (W:World)=>value_calls (X:Int) x W (by omega) (by omega) hxr.1 hxr.2
   rw [bitI_vb] at hv
   have hvb:=vb_le X x
   obtain ⟨u,hu⟩:∃ u,u=vb X x:=⟨_,rfl⟩
   rw [← hu] at hv hvb
   have HV:=Lib.hid hv
   have hnext:Hid (dnN X (ps.take (d + 1))=2 * y + u):=Lib.hid (by rw [htk,dnN_snoc,← HY.out,← hu])
   clear hx htk hv hu hxr
   go_wp2_with (first | (go_at_call 153;refine (HV.out _).mono ?_;rintro e w1 ⟨rfl,rfl⟩) | fail)
   go_roundg (gk - 1)
   case rel=>exact ⟨d + 1,by rw [hnext.out];push_cast;rfl,by simp,by omega,rfl⟩
   case measure=>omega
  ·have hd2:d=N:=by omega
   have hres:Hid (dnN X ps=y):=Lib.hid (by rw [HY.out,List.take_of_length_le (by rw [← HN.out];omega)])
   clear hd2
   go_wp2_with fail
   go_ret
   exact ⟨by rw [hres.out];rfl,rfl⟩

theorem dnN_inj {ps:List Int} (hp:permB ps=true) {X Y:Nat} (hX:X < 2 ^ ps.length) (hY:Y < 2 ^ ps.length) (h:dnN X ps=dnN Y ps):X=Y:=by
 have key:∀ (vs:List Int),dnN X vs=dnN Y vs → ∀ v ∈ vs,bitB (X:Int) v=bitB (Y:Int) v:=by
  intro vs
  induction vs with
  | nil=>intro _ v hv;cases hv
  | cons u vs ih=>
   intro hh v hv
   have h1:=dnN_lt X vs
   have h2:=dnN_lt Y vs
   change vb X u * 2 ^ vs.length + dnN X vs=vb Y u * 2 ^ vs.length + dnN Y vs at hh
   have b1:=vb_le X u
   have b2:=vb_le Y u
   have c1:vb X u=0 ∨ vb X u=1:=by omega
   have c2:vb Y u=0 ∨ vb Y u=1:=by omega
   have e:vb X u=vb Y u:=by
    rcases c1 with c1 | c1 <;> rcases c2 with c2 | c2 <;> rw [c1,c2] at hh ⊢ <;> omega
   rw [e] at hh
   rcases List.mem_cons.1 hv with rfl | hv
   ·unfold vb at e
    cases hx:bitB (X:Int) v <;> cases hy:bitB (Y:Int) v <;> rw [hx,hy] at e <;> first | rfl | (exfalso;revert e;decide)
   ·exact ih (by omega) v hv
 apply Nat.eq_of_testBit_eq
 intro j
 by_cases hj:j < ps.length
 ·have hm:(j:Int) ∈ ps:=(permB_perm.1 hp).2.symm.subset (mem_numsI.2 ⟨by omega,by omega⟩)
  have:=key ps h _ hm
  rwa [bitB_testBit,bitB_testBit] at this
 ·rw [Nat.testBit_lt_two_pow (Nat.lt_of_lt_of_le hX (Nat.pow_le_pow_right (by decide) (by omega))),Nat.testBit_lt_two_pow (Nat.lt_of_lt_of_le hY (Nat.pow_le_pow_right (by decide) (by omega)))]

theorem dnN_onto {ps:List Int} (hp:permB ps=true) {y:Nat} (hy:y < 2 ^ ps.length):∃ X,X < 2 ^ ps.length ∧ dnN X ps=y:=by
 have hnd:((List.range (2 ^ ps.length)).map (fun X=>(dnN X ps:Int))).Nodup:=by
  rw [List.nodup_iff_pairwise_ne,List.pairwise_map]
  refine (List.nodup_iff_pairwise_ne.1 List.nodup_range).imp_of_mem ?_
  intro a b ha hb hne he
  rw [List.mem_range] at ha hb
  exact hne (dnN_inj hp ha hb (by omega))
 have hsub:∀ x ∈ (List.range (2 ^ ps.length)).map (fun X=>(dnN X ps:Int)),x ∈ numsI (2 ^ ps.length):=fun x hx=>by
  obtain ⟨X,_,rfl⟩:=List.mem_map.1 hx
  have:=dnN_lt X ps
  exact mem_numsI.2 ⟨by omega,by omega⟩
 have hperm:=perm_of_sub _ (numsI (2 ^ ps.length)) hnd hsub (by rw [numsI_len,List.length_map,List.length_range];exact Nat.le_refl _)
 have hm:(y:Int) ∈ (List.range (2 ^ ps.length)).map (fun X=>(dnN X ps:Int)):=hperm.subset (mem_numsI.2 ⟨by omega,by omega⟩)
 obtain ⟨X,hX,he⟩:=List.mem_map.1 hm
 exact ⟨X,List.mem_range.1 hX,by omega⟩

end Go.Proofs.YtfpjogpjocedaaaGreat
