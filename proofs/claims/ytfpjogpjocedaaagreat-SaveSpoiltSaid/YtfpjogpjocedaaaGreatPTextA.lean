/-
  Plainly: good bytes are those of one right edge; loaded in a store they are an edge with the same bytes, or there is no room.
-/
import Derived.Test.YtfpjogpjocedaaaGreatPSaveS
import Derived.Test.YtfpjogpjocedaaaGreatPSaveU
import Derived.RangeFuncStops
import Derived.RangeFuncCalls
import Derived.RangeFuncLeaves
import Derived.RangeFuncBox
import Derived.Shelf.Abstract
import Derived.Shelf.RegionOpen
import Derived.OwnWalkIn
import Derived.TacticsInMore
import Derived.LoopNIn
import Derived.LoopIn
namespace Go.Proofs.YtfpjogpjocedaaaGreat
set_option linter.unusedSimpArgs false
set_option linter.unusedVariables false
set_option maxHeartbeats 600000

structure GoodB (b:List Int) (T:Txt) (M1:St) (ids:List Int):Prop where
 few:T.l.length ≤ 1048576
 read:readB b=some T
 perm:permB T.perm=true
 put:putL T.l (St.new (T.vars:Int) (T.l.length:Int)) []=(0,M1,ids)
 right:kRight M1 (T.form:Int) (atR ids T.e) 0=true
 bytes:saveB M1 T.perm (T.form:Int) (atR ids T.e)=b

theorem putL_wf:∀ (l:List Rec) (M:St) (ids:List Int),M.wf → (putL l M ids).2.1.wf ∧ Ext M (putL l M ids).2.1 ∧ (putL l M ids).2.1.room=M.room:=by
 intro l
 induction l with
 | nil=>intro M ids h;exact ⟨h,Ext.refl M,rfl⟩
 | cons x l ih=>
  intro M ids h
  unfold putL
  split
  ·obtain ⟨a,b,c⟩:=ih (M.findSt (atRec ids x)) (ids ++ [M.findId (atRec ids x)]) (h.find _)
   exact ⟨a,(findSt_ext h _).trans b,c.trans (findSt_room M _)⟩
  ·exact ⟨h,Ext.refl M,rfl⟩

theorem readB_facts {b:List Int} {T:Txt} (h:readB b=some T):T.perm.length=T.vars ∧ 1 ≤ T.form:=by
 unfold readB at h
 simp only [] at h
 split at h
 ·rename_i hc
  cases h
  exact ⟨numsR_len _ _,hc.2⟩
 ·cases h

theorem GoodB.raw {b:List Int} {T:Txt} {M1:St} {ids:List Int} (h:GoodB b T M1 ids) (hfa:FitA M1) (hx:(atR ids T.e).ok) (hfew:(numM M1 (atR ids T.e).to []).length ≤ 1048576) :
  T=rawT M1 T.perm (T.form:Int) (atR ids T.e) ∧ M1.wf ∧ M1.n=(T.vars:Int):=by
 obtain ⟨f1,f2⟩:=readB_facts h.read
 obtain ⟨p1,p2⟩:=perm_range2 h.perm
 have hfw:=h.few
 have hn:M1.wf ∧ M1.n=(T.vars:Int):=by
  have:=putL_wf T.l (St.new (T.vars:Int) (T.l.length:Int)) [] (St.new_wf (by omega) (by omega) (by omega) (by omega))
  rw [h.put] at this
  exact ⟨this.1,this.2.1.n⟩
 refine ⟨?_,hn⟩
 have hr:=read_save hn.1 hfa (ps:=T.perm) (by rw [hn.2,f1]) p2 hx (kRight_lead h.right) hfew
 rw [h.bytes,h.read] at hr
 exact Option.some.inj hr

theorem GoodB.load {b:List Int} {T:Txt} {M1:St} {ids:List Int} (h:GoodB b T M1 ids) (hfa:FitA M1) (hx:(atR ids T.e).ok) (hfew:(numM M1 (atR ids T.e).to []).length ≤ 1048576) {M:St} (hM:M.wf) (hn:M.n=(T.vars:Int)) :
  ((putL T.l M []).1=0 ∧ ∃ D φ,Emb M1 (putL T.l M []).2.1 D φ ∧ InD D (atR ids T.e).to ∧ atR (putL T.l M []).2.2 T.e=mapE φ (atR ids T.e)) ∨ ((putL T.l M []).1=6 ∧ M.room < M.len + T.l.length):=by
 obtain ⟨r1,r2,r3⟩:=h.raw hfa hx hfew
 obtain ⟨x1,hx1⟩:∃ x1,x1=atR ids T.e:=⟨_,rfl⟩
 rw [← hx1] at hx hfew r1 ⊢
 have hl:=kRight_lead h.right
 rw [← hx1] at hl
 have hS:NumOk M1 (numM M1 x1.to []):=(NumOk.nil M1).next r2 hfa x1.to
 have hE0:Emb M1 M (fun z=>z ∈ (numM M1 x1.to []).take 0) (phi (numM M1 x1.to []) []):=
  ⟨hn.trans r3.symm,fun z hz=>phi_low hz,fun x y hx=>by simp at hx,fun x hx=>by simp at hx,fun x r hx=>by simp at hx,fun x r hx=>by simp at hx⟩
 have hTl:T.l=(numM M1 x1.to []).map (fun x=>rawRec (numM M1 x1.to []) (grec (look M1.cs x))):=congrArg Txt.l r1
 have hTe:T.e=rawE (numM M1 x1.to []) x1:=congrArg Txt.e r1
 have hin:InD (fun z=>z ∈ numM M1 x1.to []) x1.to:=by
  rcases (leads_iff.1 hl).2 with h2 | ⟨r,a,_⟩
  ·exact .inl h2
  ·exact .inr (numM_here r2 hfa (NumOk.nil M1) (by rw [a];simp))
 have key:=put_emb r2 hfa hS (numM M1 x1.to []) 0 M [] rfl (Nat.zero_le _) rfl hM hE0
 rw [← hTl] at key
 rcases key with ⟨k1,L2,k2,k3,k4⟩ | ⟨k1,k2⟩
 ·left
  refine ⟨k1,_,_,k4,hin,?_⟩
  rw [k2,hTe]
  exact atR_raw hx.2.1
 ·right
  refine ⟨k1,?_⟩
  rw [hTl,List.length_map]
  exact k2

structure NumE (k:Nat) (e:Edge):Prop where
 tag:0 ≤ e.tag ∧ e.tag ≤ 16
 at':0 ≤ e.to ∧ e.to ≤ (k:Int) + 1

structure NumRec (f:Int) (k:Nat) (r:Rec):Prop where
 form:r.form=f
 top:0 ≤ r.top ∧ r.top ≤ 16
 bot:0 ≤ r.bot ∧ r.bot ≤ 16
 lo:NumE k r.lo
 hi:NumE k r.hi

theorem numR_most (most:Nat) (rd:Option (List Int)):(numR most rd).1 ≤ most:=by
 unfold numR
 cases rd with
 | none=>exact Nat.zero_le _
 | some bs=>
  simp only []
  unfold getB
  cases getG 10 bs with
  | none=>exact Nat.zero_le _
  | some p=>
   obtain ⟨n,r⟩:=p
   simp only []
   by_cases h:n ≤ most
   ·rw [if_pos h];exact h
   ·rw [if_neg h];exact Nat.zero_le _

theorem edgeR_num (f:Int) (k:Nat) (rd:Option (List Int)):NumE k (edgeR f k rd).1:=by
 have h1:=numR_most (k + 1) rd
 have h2:=numR_most 16 (numR (k + 1) rd).2
 unfold edgeR
 split
 ·exact ⟨⟨by show (0:Int) ≤ ((numR 16 (numR (k + 1) rd).2).1:Int);omega,by show ((numR 16 (numR (k + 1) rd).2).1:Int) ≤ 16;omega⟩,⟨by show (0:Int) ≤ ((numR (k + 1) rd).1:Int);omega,by show ((numR (k + 1) rd).1:Int) ≤ _;omega⟩⟩
 ·exact ⟨⟨by show (0:Int) ≤ 0;decide,by show (0:Int) ≤ 16;decide⟩,⟨by show (0:Int) ≤ ((numR (k + 1) rd).1:Int);omega,by show ((numR (k + 1) rd).1:Int) ≤ _;omega⟩⟩

theorem recR_num (f:Int) (k:Nat) (rd:Option (List Int)):NumRec f k (recR f k rd).1:=by
 have h1:=numR_most 16 rd
 have h2:=numR_most 16 (numR 16 rd).2
 have h3:(botR f rd).1 ≤ 16:=by
  unfold botR
  split
  ·exact h2
  ·exact h1
 exact ⟨rfl,⟨by show (0:Int) ≤ ((numR 16 rd).1:Int);omega,by show ((numR 16 rd).1:Int) ≤ 16;omega⟩,⟨by show (0:Int) ≤ ((botR f rd).1:Int);omega,by show ((botR f rd).1:Int) ≤ 16;omega⟩,edgeR_num _ _ _,edgeR_num _ _ _⟩

theorem recsR_num (f:Int):∀ (j k:Nat) (rd:Option (List Int)) (i:Nat) (x:Rec),(recsR f j k rd).1[i]?=some x → NumRec f (k + i) x:=by
 intro j
 induction j with
 | zero=>intro k rd i x h;simp [recsR] at h
 | succ j ih=>
  intro k rd i x h
  cases i with
  | zero=>
   have:(recR f k rd).1=x:=by simpa [recsR] using h
   rw [← this]
   exact recR_num f k rd
  | succ i=>
   have h2:(recsR f j (k + 1) (recR f k rd).2).1[i]?=some x:=by simpa [recsR] using h
   have:=ih (k + 1) _ i x h2
   have e:k + 1 + i=k + (i + 1):=by omega
   rw [e] at this
   exact this

theorem numsR_num:∀ (j:Nat) (rd:Option (List Int)),∀ x ∈ (numsR j rd).1,0 ≤ x ∧ x ≤ 16:=by
 intro j
 induction j with
 | zero=>intro rd x h;simp [numsR] at h
 | succ j ih=>
  intro rd x h
  have h1:=numR_most 16 rd
  have h2:x=((numR 16 rd).1:Int) ∨ x ∈ (numsR j (numR 16 rd).2).1:=by simpa [numsR] using h
  rcases h2 with rfl | h2
  ·omega
  ·exact ih _ x h2

structure TxtOk (len:Nat) (T:Txt):Prop where
 vars:T.vars ≤ 16
 form:1 ≤ T.form ∧ T.form ≤ 5
 perm:T.perm.length=T.vars ∧ ∀ x ∈ T.perm,0 ≤ x ∧ x ≤ 16
 few:T.l.length ≤ len
 l:∀ (i:Nat) (x:Rec),T.l[i]?=some x → NumRec (T.form:Int) i x
 e:NumE T.l.length T.e

theorem readB_ok {b:List Int} {T:Txt} (h:readB b=some T):TxtOk b.length T:=by
 have h1:=numR_most 16 (some b)
 have h2:=numR_most 5 (numR 16 (some b)).2
 have h3:=numR_most b.length (numsR (numR 16 (some b)).1 (numR 5 (numR 16 (some b)).2).2).2
 unfold readB at h
 simp only [] at h
 split at h
 ·rename_i hc
  cases h
  refine ⟨h1,⟨hc.2,h2⟩,⟨numsR_len _ _,numsR_num _ _⟩,by rw [recsR_len];exact h3,fun i x hx=>?_,?_⟩
  ·have:=recsR_num _ _ _ _ i x hx
   rw [Nat.zero_add] at this
   exact this
  ·show NumE (List.length _) _
   rw [recsR_len]
   exact edgeR_num _ _ _
 ·cases h

structure PutAt (l:List Rec) (M0:St) (i:Nat) (M:St) (ids:List Int):Prop where
 len:ids.length=i
 all:putL l M0 []=putL (l.drop i) M ids
 wf:M.wf
 ext:Ext M0 M
 room:M.room=M0.room
 most:M.len ≤ M0.len + (i:Int)
 ids:∀ x ∈ ids,look M.cs x ≠ none

theorem PutAt.start {M0:St} (h:M0.wf) (l:List Rec):PutAt l M0 0 M0 []:=⟨rfl,rfl,h,Ext.refl M0,rfl,by omega,by simp⟩

theorem drop_some {α:Type} {l:List α} {i:Nat} {x:α} (h:l[i]?=some x):l.drop i=x :: l.drop (i + 1):=by
 obtain ⟨hi,he⟩:=List.getElem?_eq_some_iff.1 h
 rw [List.drop_eq_getElem_cons hi,he]

theorem PutAt.next {l:List Rec} {M0:St} {i:Nat} {M:St} {ids:List Int} (h:PutAt l M0 i M ids) {x:Rec} (hx:l[i]?=some x) (he:M.findErr (atRec ids x)=0):PutAt l M0 (i + 1) (M.findSt (atRec ids x)) (ids ++ [M.findId (atRec ids x)]):=by
 refine ⟨by rw [List.length_append,h.len];rfl,?_,h.wf.find _,h.ext.trans (findSt_ext h.wf _),(findSt_room M _).trans h.room,?_,?_⟩
 ·rw [h.all,drop_some hx]
  conv=>lhs;unfold putL
  rw [if_pos he]
 ·have:=(findSt_len M (atRec ids x)).2
  have:=h.most
  push_cast
  omega
 ·intro y hy
  rcases List.mem_append.1 hy with hy | hy
  ·cases hl:look M.cs y with
   | none=>exact absurd hl (h.ids y hy)
   | some r=>rw [(findSt_ext h.wf _).sub y r hl];simp
  ·rw [List.mem_singleton] at hy
   rw [hy,find_zero2 h.wf he]
   simp

theorem PutAt.bad {l:List Rec} {M0:St} {i:Nat} {M:St} {ids:List Int} (h:PutAt l M0 i M ids) {x:Rec} (hx:l[i]?=some x) (he:M.findErr (atRec ids x) ≠ 0):putL l M0 []=(M.findErr (atRec ids x),M,ids):=by
 rw [h.all,drop_some hx]
 conv=>lhs;unfold putL
 rw [if_neg he]

theorem PutAt.end {l:List Rec} {M0:St} {M:St} {ids:List Int} (h:PutAt l M0 l.length M ids):putL l M0 []=(0,M,ids):=by
 rw [h.all,List.drop_length]
 rfl

theorem id_range {M:St} (h:M.wf) (hc:M.cs.length ≤ 4294967293) {x:Int} (hx:look M.cs x ≠ none):2 ≤ x ∧ x ≤ 4294967295:=by
 cases hl:look M.cs x with
 | none=>exact absurd hl hx
 | some r=>
  obtain ⟨a,b,c⟩:=look_some hl
  have:=(List.getElem?_eq_some_iff.1 c).1
  omega

theorem putL_len:∀ (l:List Rec) (M:St) (ids:List Int),M.len ≤ (putL l M ids).2.1.len ∧ (putL l M ids).2.1.len ≤ M.len + (l.length:Int):=by
 intro l
 induction l with
 | nil=>intro M ids;exact ⟨Int.le_refl _,by simp [putL]⟩
 | cons x l ih=>
  intro M ids
  unfold putL
  have h1:=findSt_len M (atRec ids x)
  split
  ·have h2:=ih (M.findSt (atRec ids x)) (ids ++ [M.findId (atRec ids x)])
   rw [List.length_cons]
   push_cast
   omega
  ·rw [List.length_cons]
   push_cast
   show M.len ≤ M.len ∧ M.len ≤ _
   omega

theorem new_solid (n r:Int):(St.new n r).solid:=⟨rfl,fun o ho=>by cases ho⟩

open Go Go.RowKit

def RowN (w:World) (g n:Nat) (ids:List Int):Prop:=∃ cur:Array Value,w.heap[g]?=some (.cells cur 35 (0,0)) ∧ ∀ j,j < n → cur[j]?=some (Value.int .u32 ((ids[j]?).getD 0))

theorem RowN.cell {w:World} {g n:Nat} {ids:List Int} (h:RowN w g n ids) (j:Nat) (hj:j < n):w.cell? ⟨g,j,none⟩=some (.int .u32 ((ids[j]?).getD 0)):=by
 obtain ⟨cur,h1,h2⟩:=h
 rw [cell_of_row w g j _ _ _ h1]
 simp only [h2 j hj]

theorem RowN.frozen {w:World} {g n:Nat} {ids:List Int} (h:RowN w g n ids) (j:Nat):w.frozen? ⟨g,j,none⟩=false:=by
 obtain ⟨cur,h1,h2⟩:=h
 exact frozen_of_row w g j _ _ h1

theorem RowN.lt {w:World} {g n:Nat} {ids:List Int} (h:RowN w g n ids):g < w.heap.size:=by
 obtain ⟨cur,h1,h2⟩:=h
 exact lt_of_heap h1

theorem RowN.upd {G:Nat → Prop} {w w':World} {g n:Nat} {ids:List Int} (h:RowN w g n ids) (hu:Upd G w w') (hg:¬ G g):RowN w' g n ids:=by
 have hl:=h.lt
 obtain ⟨cur,h1,h2⟩:=h
 exact ⟨cur,(hu.block g hl hg).trans h1,h2⟩

theorem RowN.snoc {w:World} {g n:Nat} {ids:List Int} (h:RowN w g n ids) {i:Nat} (hi:ids.length=i) (hn:i < n) (y:Int):RowN (w.setCell ⟨g,i,none⟩ (.int .u32 y)) g n (ids ++ [y]):=by
 obtain ⟨cur,h1,h2⟩:=h
 refine ⟨_,Go.heap_setCell_same w g i _ _ (.int .u32 y) h1,fun j hj=>?_⟩
 rw [Array.getElem?_setIfInBounds]
 by_cases hij:i=j
 ·subst hij
  have hs:i < cur.size:=(Array.getElem?_eq_some_iff.1 (h2 i hj)).1
  rw [if_pos rfl,if_pos hs,List.getElem?_append_right (by omega),hi]
  simp
 ·rw [if_neg hij,h2 j hj]
  by_cases hlt:j < i
  ·rw [List.getElem?_append_left (by omega)]
  ·rw [List.getElem?_eq_none (by omega),List.getElem?_eq_none (by rw [List.length_append,List.length_singleton];omega)]

theorem rowN_made {w:World} {lo g n cap:Nat} (hown:w.ownsRow lo 35 1 (.slice (some ⟨g,0,none⟩) n cap) n (List.replicate n (.int .u32 0))):RowN w g n []:=by
 obtain ⟨cur0,hcur0⟩:=owns_type hown (k:=g) rfl
 rcases hown.2 with ⟨h0,_⟩ | ⟨g',cap',cur,hv,hb,hg,_,_,hs,ht⟩
 ·cases h0
 ·cases hv
  refine ⟨cur,hg,fun j hj=>?_⟩
  have h1:(List.replicate n (Value.int .u32 0))[j]?=some (.int .u32 0):=by rw [List.getElem?_replicate,if_pos hj]
  rw [← ht,List.getElem?_take] at h1
  split at h1
  ·rw [Array.getElem?_toList] at h1
   exact h1
  ·cases h1

theorem rowN_made2 {w:World} {lo blk n:Nat} (h:w.ownsRow lo 35 1 (.slice (some ⟨blk,0,none⟩) n n) n (madeCells (Value.int .u32 0).cells (n * 1)).toList):RowN w blk n []:=by
 have e:(madeCells (Value.int .u32 0).cells (n * 1)).toList=List.replicate n (.int .u32 0):=by
  rw [Nat.mul_one]
  simp [madeCells,Value.cells,Nat.mod_one]
  rw [List.map_const',List.length_range]
 rw [e] at h
 exact rowN_made h

structure IdsAt (w:World) (ib a n:Nat) (ids:List Int):Prop where
 box:w.cell? ⟨ib,0,none⟩=some (.slice (some ⟨a,0,none⟩) n n)
 row:RowN w a n ids

theorem IdsAt.keeps {w w':World} {ib a n:Nat} {ids:List Int} (h:IdsAt w ib a n ids) (hk:Keeps w w'):IdsAt w' ib a n ids:=
 ⟨hk.cell h.box,h.row.upd (hk.upd (fun _=>False)) (fun h=>h)⟩

theorem IdsAt.upd {w w':World} {ib a n:Nat} {ids:List Int} {G:Nat → Prop} (h:IdsAt w ib a n ids) (hu:Upd G w w') (h1:¬ G ib) (h2:¬ G a):IdsAt w' ib a n ids:=
 ⟨hu.cellAt h1 h.box,h.row.upd hu h2⟩

set_option maxRecDepth 100000 in
theorem at1_calls {w:World} {ib a n:Nat} {ids:List Int} (h:IdsAt w ib a n ids) (e:Edge) (he:e.ok) (hn:2 ≤ e.to → (e.to - 2).toNat < n) (hs:n ≤ 1073741824) :
  Calls Tryz.prog 84 #[.agg #[.int .u8 e.tag,.int .u32 e.to],.pointer (some ⟨ib,0,none⟩)] w fun r w'=>r=.returned (.agg #[.int .u8 (atR ids e).tag,.int .u32 (atR ids e).to]) ∧ Keeps w w':=by
 have hb:=h.box
 have t0:=he.2.1
 have t1:=he.2.2
 have hlb:ib < w.heap.size:=lt_of_cell hb
 have hnb:w.heap.size ≠ ib:=by omega
 unfold atR
 by_cases h2:2 ≤ e.to
 ·rw [if_pos h2]
  obtain ⟨k,hk⟩:∃ k,k=(e.to - 2).toNat:=⟨_,rfl⟩
  have hkn:k < n:=by rw [hk];exact hn h2
  have hr:=h.row.cell k hkn
  have hla:a < w.heap.size:=lt_of_cell hr
  rw [← hk]
  have hto:e.to=(k:Int) + 2:=by omega
  obtain ⟨t,v⟩:=e
  simp only at hto h2 t0 t1 ⊢
  subst hto
  obtain ⟨y,hy⟩:∃ y,y=(ids[k]?).getD 0:=⟨_,rfl⟩
  rw [← hy] at hr ⊢
  have i1:(k:Int) < (n:Int):=by omega
  have hwr:IntKind.u32.wrap ((k:Int) + 2 - 2)=(k:Int):=by
   have e1:(k:Int) + 2 - 2=(k:Int):=by omega
   rw [e1]
   have e2:(k:Int) % 4294967296=(k:Int):=by omega
   unfold IntKind.wrap
   simp [IntKind.signed,IntKind.bits,e2]
  clear h hn hk hy
  go_enter Tryz.func84,Tryz.ntmps84
  go_wp2
  refine bodyPost_ret (v:=.agg #[.int .u8 (⟨t,y⟩:Edge).tag,.int .u32 (⟨t,y⟩:Edge).to]) (by simp [results,Tryz.results84,go_sem]) rfl ⟨rfl,by (exact kp)⟩
 ·rw [if_neg h2]
  obtain ⟨t,v⟩:=e
  simp only at h2 t0 t1 ⊢
  clear h hn
  go_enter Tryz.func84,Tryz.ntmps84
  go_wp2
  refine bodyPost_ret (v:=.agg #[.int .u8 (⟨t,v⟩:Edge).tag,.int .u32 (⟨t,v⟩:Edge).to]) (by simp [results,Tryz.results84,go_sem]) rfl ⟨rfl,by (exact kp)⟩

open Go.RowKit

def rv:Nat → Nat → Nat → Int
 | _,0,_=>0
 | y,k + 1,m=>(if y / 2 ^ k % 2=1 then 2 ^ m else 0) + rv (y % 2 ^ k) k (m + 1)

theorem tabX_at {g:Int → Bool}:∀ (k m:Nat) (x:Int) (y:Nat),y < 2 ^ k → (tabX g k m x)[y]?=some (g (x + rv y k m)):=by
 intro k
 induction k with
 | zero=>
  intro m x y hy
  have:y=0:=by simpa using hy
  subst this
  show some (g x)=some (g (x + 0))
  rw [Int.add_zero]
 | succ k ih=>
  intro m x y hy
  have hp:0 < 2 ^ k:=Nat.pow_pos (by decide)
  have e2:2 ^ (k + 1)=2 ^ k + 2 ^ k:=by rw [Nat.pow_succ];omega
  show (tabX g k (m + 1) x ++ tabX g k (m + 1) (x + 2 ^ m))[y]?=some (g (x + ((if y / 2 ^ k % 2=1 then 2 ^ m else 0) + rv (y % 2 ^ k) k (m + 1))))
  have hl:=tabX_len g k (m + 1) x
  by_cases h:y < 2 ^ k
  ·rw [List.getElem?_append_left (by rw [hl];exact h),ih _ _ _ h,Nat.div_eq_of_lt h,Nat.mod_eq_of_lt h,if_neg (by decide),Int.zero_add]
  ·have h1:y / 2 ^ k=1:=by
    rw [Nat.div_eq_iff hp]
    omega
   have h2:y % 2 ^ k=y - 2 ^ k:=by
    have:=Nat.div_add_mod y (2 ^ k)
    rw [h1] at this
    omega
   rw [List.getElem?_append_right (by rw [hl];omega),hl,ih _ _ _ (by omega),h1,h2,if_pos (by decide),Int.add_assoc]

theorem bitB_nat (y k:Nat):bitB (y:Int) (k:Int)=decide (y / 2 ^ k % 2=1):=by
 unfold bitB
 rw [Int.toNat_natCast]
 congr 1
 have:(y:Int) / 2 ^ k % 2=((y / 2 ^ k % 2:Nat):Int):=by push_cast;rfl
 rw [this]
 exact propext ⟨fun h=>by exact_mod_cast h,fun h=>by exact_mod_cast h⟩

def vb (X:Nat) (v:Int):Nat:=if bitB (X:Int) v=true then 1 else 0

theorem vb_le (X:Nat) (v:Int):vb X v ≤ 1:=by unfold vb;split <;> decide

def upN (X:Nat):List Int → Nat
 | []=>0
 | v :: ps=>vb X v + 2 * upN X ps

def dnN (X:Nat):List Int → Nat
 | []=>0
 | v :: ps=>vb X v * 2 ^ ps.length + dnN X ps

theorem dnN_lt (X:Nat):∀ ps:List Int,dnN X ps < 2 ^ ps.length:=by
 intro ps
 induction ps with
 | nil=>exact Nat.one_pos
 | cons v ps ih=>
  have:=vb_le X v
  have e2:2 ^ (v :: ps).length=2 ^ ps.length * 2:=by rw [List.length_cons,Nat.pow_succ]
  show vb X v * 2 ^ ps.length + dnN X ps < _
  rw [e2]
  rcases Nat.le_one_iff_eq_zero_or_eq_one.1 this with h | h
  ·rw [h];omega
  ·rw [h];omega

theorem rv_dnN (X:Nat):∀ (ps:List Int) (m:Nat),rv (dnN X ps) ps.length m=2 ^ m * (upN X ps:Int):=by
 intro ps
 induction ps with
 | nil=>intro m;show (0:Int)=2 ^ m * ((0:Nat):Int);simp
 | cons v ps ih=>
  intro m
  have hl:=dnN_lt X ps
  have hp:0 < 2 ^ ps.length:=Nat.pow_pos (by decide)
  show (if (vb X v * 2 ^ ps.length + dnN X ps) / 2 ^ ps.length % 2=1 then (2:Int) ^ m else 0) + rv ((vb X v * 2 ^ ps.length + dnN X ps) % 2 ^ ps.length) ps.length (m + 1)=2 ^ m * ((vb X v + 2 * upN X ps:Nat):Int)
  have e1:(vb X v * 2 ^ ps.length + dnN X ps) / 2 ^ ps.length=vb X v:=by
   rw [Nat.mul_comm,Nat.mul_add_div hp,Nat.div_eq_of_lt hl,Nat.add_zero]
  have e2:(vb X v * 2 ^ ps.length + dnN X ps) % 2 ^ ps.length=dnN X ps:=by
   rw [Nat.mul_comm,Nat.mul_add_mod,Nat.mod_eq_of_lt hl]
  rw [e1,e2,ih]
  have h1:=vb_le X v
  rw [Int.pow_succ]
  rcases Nat.le_one_iff_eq_zero_or_eq_one.1 h1 with h | h
  ·rw [h,if_neg (by decide)]
   push_cast
   rw [Int.mul_assoc,Int.zero_add,Int.zero_add]
  ·rw [h,if_pos (by decide)]
   push_cast
   rw [Int.mul_assoc,Int.mul_add]
   omega

theorem bitB_testBit (y j:Nat):bitB (y:Int) (j:Int)=y.testBit j:=by
 rw [bitB_nat,Nat.testBit_eq_decide_div_mod_eq]

def tabP (M:St) (ps:List Int) (f:Int) (e:Edge):List Bool:=(List.range (2 ^ ps.length)).map (fun X=>tv M f (upN X ps:Int) 0 e)

theorem tabP_len (M:St) (ps:List Int) (f:Int) (e:Edge):(tabP M ps f e).length=2 ^ ps.length:=by unfold tabP;simp

theorem tabP_get {M:St} {ps:List Int} {f:Int} {e:Edge} {X:Nat} (h:X < 2 ^ ps.length):(tabP M ps f e)[X]?=some (tv M f (upN X ps:Int) 0 e):=by
 unfold tabP
 simp [h]

theorem tabE_dnN {M:St} {ps:List Int} {f:Int} {e:Edge} (hn:M.n=(ps.length:Int)) (X:Nat):(tabE M f e 0)[dnN X ps]?=some (tv M f (upN X ps:Int) 0 e):=by
 unfold tabE
 rw [show (M.n - 0).toNat=ps.length by omega]
 show (tabX _ ps.length 0 0)[dnN X ps]?=_
 rw [tabX_at _ _ _ _ (dnN_lt X ps),rv_dnN]
 simp

def scanL:List UInt8 → Nat → Nat
 | [],_=>0
 | _ :: _,0=>0
 | b :: u,d + 1=>1 + scanL u (if b=40 then d + 2 else if b=41 then d else d + 1)

def addOne (out:List (List UInt8)) (x:List UInt8):List (List UInt8):=if x ∈ out then out else out ++ [x]

def ps:List UInt8 → List (List UInt8) → List (List UInt8)
 | [],out=>out
 | b :: u,out=>ps u (if b=40 then addOne out ((b :: u).take (1 + scanL u 1)) else out)

end Go.Proofs.YtfpjogpjocedaaaGreat
