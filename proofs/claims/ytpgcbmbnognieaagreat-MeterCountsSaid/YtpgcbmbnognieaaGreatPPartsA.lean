/-
  The walk of ramageref12.Parts.
-/
import Derived.Test.YtpgcbmbnognieaaGreatPSwapQ
namespace Go.Proofs.YtpgcbmbnognieaaGreat
set_option linter.unusedSimpArgs false
set_option linter.unusedVariables false
set_option maxHeartbeats 600000
open Go.RowKit

def scanL:List UInt8 → Nat → Nat
 | [],_=>0
 | _ :: _,0=>0
 | b :: u,d + 1=>1 + scanL u (if b=40 then d + 2 else if b=41 then d else d + 1)

theorem scanL_zero (u:List UInt8):scanL u 0=0:=by cases u <;> rfl

def endAt (l:List UInt8) (i:Nat):Nat:=i + 1 + scanL (l.drop (i + 1)) 1

def partsTo (t:ByteArray):Nat → List ByteArray
 | 0=>[]
 | i + 1=>if t.data.toList[i]?=some 40 then (if (partsTo t i).any (fun s=>s.toList == (t.extract i (endAt t.data.toList i)).toList) then partsTo t i else partsTo t i ++ [t.extract i (endAt t.data.toList i)]) else partsTo t i

def addOne (out:List (List UInt8)) (x:List UInt8):List (List UInt8):=if x ∈ out then out else out ++ [x]

def ps:List UInt8 → List (List UInt8) → List (List UInt8)
 | [],out=>out
 | b :: u,out=>ps u (if b=40 then addOne out ((b :: u).take (1 + scanL u 1)) else out)

theorem extract_list (t:ByteArray) (i j:Nat):(t.extract i j).data.toList=(t.data.toList.drop i).take (j - i):=by
 rw [ByteArray.data_extract,Array.toList_extract]

theorem partsTo_ps (t:ByteArray):∀ (u:List UInt8) (i:Nat),t.data.toList.drop i=u → i + u.length=t.size → ps u ((partsTo t i).map (fun s=>s.data.toList))=(partsTo t t.size).map (fun s=>s.data.toList):=by
 intro u
 induction u with
 | nil=>
  intro i _ hl
  simp at hl
  rw [hl]
  rfl
 | cons b u ih=>
  intro i hd hl
  have hdu:t.data.toList.drop (i + 1)=u:=by
   have:=congrArg List.tail hd
   rw [List.tail_drop] at this
   exact this
  have hb:t.data.toList[i]?=some b:=by
   have:=congrArg (fun l=>l[0]?) hd
   simp only [List.getElem?_drop,Nat.add_zero,List.getElem?_cons_zero] at this
   exact this
  rw [← ih (i + 1) hdu (by simp at hl;omega)]
  show ps u _=ps u _
  congr 1
  show _=(if t.data.toList[i]?=some 40 then _ else _:List ByteArray).map _
  rw [hb]
  by_cases h40:b=40
  ·subst h40
   rw [if_pos rfl,if_pos rfl]
   have hcut:(t.extract i (endAt t.data.toList i)).data.toList=(40 :: u).take (1 + scanL u 1):=by
    rw [extract_list,hd]
    congr 1
    unfold endAt
    rw [hdu]
    omega
   have hany:(partsTo t i).any (fun s=>s.toList == (t.extract i (endAt t.data.toList i)).toList)=decide ((40 :: u).take (1 + scanL u 1) ∈ (partsTo t i).map (fun s=>s.data.toList)):=by
    rw [Bool.eq_iff_iff]
    simp only [List.any_eq_true,decide_eq_true_eq,List.mem_map,beq_iff_eq]
    constructor
    ·rintro ⟨s,hs,he⟩
     rw [ByteArray.toList_eq,ByteArray.toList_eq,hcut] at he
     exact ⟨s,hs,he⟩
    ·rintro ⟨s,hs,he⟩
     exact ⟨s,hs,by rw [ByteArray.toList_eq,ByteArray.toList_eq,hcut,he]⟩
   unfold addOne
   rw [hany]
   by_cases hm:(40 :: u).take (1 + scanL u 1) ∈ (partsTo t i).map (fun s=>s.data.toList)
   ·rw [if_pos hm,decide_eq_true hm,if_pos rfl]
   ·rw [if_neg hm,decide_eq_false hm,if_neg (by decide),List.map_append,List.map_cons,hcut]
    rfl
  ·rw [if_neg h40,if_neg (fun e=>h40 (by cases e;rfl))]

theorem parts_len (t:ByteArray):(partsTo t t.size).length=(ps t.data.toList []).length:=by
 have:=partsTo_ps t t.data.toList 0 rfl (by simp)
 rw [show (partsTo t 0).map (fun s=>s.data.toList)=[] from rfl] at this
 rw [this,List.length_map]

def Flat (u:List UInt8):Prop:=∀ b ∈ u,b ≠ 40 ∧ b ≠ 41

theorem scan_flat {u:List UInt8} (h:Flat u) (v:List UInt8) (d:Nat):scanL (u ++ v) (d + 1)=u.length + scanL v (d + 1):=by
 induction u with
 | nil=>simp
 | cons b u ih=>
  have hb:=h b List.mem_cons_self
  show 1 + scanL (u ++ v) _=_
  rw [if_neg hb.1,if_neg hb.2,ih (fun x hx=>h x (List.mem_cons_of_mem _ hx)),List.length_cons]
  omega

theorem ps_flat {u:List UInt8} (h:Flat u) (v:List UInt8) (out:List (List UInt8)):ps (u ++ v) out=ps v out:=by
 induction u generalizing out with
 | nil=>rfl
 | cons b u ih=>
  have hb:=h b List.mem_cons_self
  show ps (u ++ v) _=_
  rw [if_neg hb.1,ih (fun x hx=>h x (List.mem_cons_of_mem _ hx))]

def dB (k:Int):UInt8:=UInt8.ofNat (48 + k).toNat

theorem dB_flat {k:Int} (h0:0 ≤ k) (h1:k < 10):dB k ≠ 40 ∧ dB k ≠ 41 ∧ dB k ≠ 64:=by
 have:k=0 ∨ k=1 ∨ k=2 ∨ k=3 ∨ k=4 ∨ k=5 ∨ k=6 ∨ k=7 ∨ k=8 ∨ k=9:=by omega
 rcases this with rfl | rfl | rfl | rfl | rfl | rfl | rfl | rfl | rfl | rfl <;> decide

theorem dB_inj {k j:Int} (h0:0 ≤ k) (h1:k < 10) (h2:0 ≤ j) (h3:j < 10) (h:dB k=dB j):k=j:=by
 have:=congrArg UInt8.toNat h
 unfold dB at this
 rw [UInt8.toNat_ofNat',UInt8.toNat_ofNat'] at this
 omega

def unfL (f:Int) (M:St) (n:Nat) (e:Edge):List UInt8:=(unfS f M n e).data.toList

def preL (f:Int) (e:Edge):List UInt8:=if f=5 then [dB e.tag,64] else []
def midL (f:Int) (r:Rec):List UInt8:=if f=3 ∨ f=4 then [dB r.top,58,dB r.bot,32] else [dB r.top,32]
def leafL (f:Int) (e:Edge):List UInt8:=if f=5 then (if e.to=0 then [48] else [dB e.tag,64,49]) else [dB e.to]

def nodeL (f:Int) (M:St) (n:Nat) (r:Rec):List UInt8:=40 :: (midL f r ++ (unfL f M n r.lo ++ 32 :: (unfL f M n r.hi ++ [41])))

theorem digS_list (k:Int):(digS k).data.toList=[dB k]:=rfl

theorem unfL_leaf {f:Int} {M:St} {n:Nat} {e:Edge} (h0:0 ≤ e.to) (h:e.to < 2):unfL f M (n + 1) e=leafL f e:=by
 unfold unfL unfS leafL
 by_cases h5:f=5
 ·rw [if_pos h5,if_pos h5]
  by_cases hz:e.to=0
  ·rw [if_pos hz,if_pos hz]
  ·rw [if_neg hz,if_neg hz,if_pos (by omega)]
   simp [ByteArray.data_append,digS_list]
 ·rw [if_neg h5,if_neg h5,if_pos h]
  rfl

theorem unfL_node {f:Int} {M:St} {n:Nat} {e:Edge} {r:Rec} (h:look M.cs e.to=some r):unfL f M (n + 1) e=preL f e ++ nodeL f M n r:=by
 have h2:=(look_some h).1
 have hg:grec (look M.cs e.to)=r:=by rw [h];rfl
 unfold unfL unfS preL nodeL midL
 rw [hg]
 by_cases h5:f=5
 ·rw [if_pos h5,if_pos h5,if_neg (by omega),if_neg (by omega),if_neg (by omega)]
  simp [ByteArray.data_append,digS_list,unfL]
 ·rw [if_neg h5,if_neg h5,if_neg (by omega)]
  by_cases h34:f=3 ∨ f=4
  ·rw [if_pos h34,if_pos h34]
   simp [ByteArray.data_append,digS_list,unfL]
  ·rw [if_neg h34,if_neg h34]
   simp [ByteArray.data_append,digS_list,unfL]

structure Fine (f:Int) (M:St):Prop where
 wf:M.wf
 fit:∀ id r,look M.cs id=some r → 0 ≤ r.lo.to ∧ 0 ≤ r.hi.to
 n9:M.n ≤ 9

structure At (f:Int) (M:St) (e:Edge) (l:Int) (n:Nat):Prop where
 lead:M.leads f e l=true
 ok:0 ≤ e.to
 deep:M.n < l + n

theorem At.tag {f:Int} {M:St} {e:Edge} {l:Int} {n:Nat} (hM:Fine f M) (h:At f M e l n):0 ≤ e.tag ∧ e.tag < 10 ∧ (f ≠ 5 ∨ e.to=0 → e.tag=0) ∧ 0 ≤ l:=by
 obtain ⟨h1,_⟩:=leads_cases h.lead
 have h9:=hM.n9
 unfold plainB at h1
 split at h1
 ·cases h1
 ·rename_i hc
  simp only [Bool.or_eq_true,decide_eq_true_eq,not_or] at hc
  split at h1
  ·rename_i hc2
   have ht:e.tag=0:=by simpa using h1
   exact ⟨by omega,by omega,fun _=>ht,by omega⟩
  ·rename_i hc2
   simp only [Bool.or_eq_true,bne_iff_ne,ne_eq,beq_iff_eq,not_or,Decidable.not_not] at hc2
   simp only [Bool.and_eq_true,decide_eq_true_eq] at h1
   exact ⟨by omega,by omega,fun hh=>by rcases hh with hh | hh;exact absurd hc2.1 hh;exact absurd hh hc2.2,by omega⟩

theorem At.cases {f:Int} {M:St} {e:Edge} {l:Int} {n:Nat} (hM:Fine f M) (h:At f M e l (n + 1)) :
  (0 ≤ e.to ∧ e.to < 2) ∨ (∃ r,look M.cs e.to=some r ∧ r.form=f ∧ l ≤ r.top ∧ r.top ≤ r.bot ∧ r.bot < M.n ∧ 0 ≤ r.top ∧ r.top < 10 ∧ r.bot < 10 ∧ (r.top=r.bot ∨ f=3 ∨ f=4) ∧ At f M r.lo (r.bot + 1) n ∧ At f M r.hi (r.bot + 1) n):=by
 obtain ⟨h1,h2⟩:=leads_cases h.lead
 have h9:=hM.n9
 rcases h2 with h2 | ⟨r,hl,hf,ht,_⟩
 ·exact .inl ⟨h.ok,h2⟩
 ·right
  have g:=hM.wf.goodRec hl
  have hok:=hM.fit _ _ hl
  have:=g.tb
  have:=g.bn
  have hd:=h.deep
  have hl0:=(h.tag hM).2.2.2
  subst hf
  refine ⟨r,hl,rfl,ht,g.tb,g.bn,by omega,by omega,by omega,?_,⟨g.lo,hok.1,by push_cast at hd;omega⟩,⟨g.hi,hok.2,by push_cast at hd;omega⟩⟩
  rcases g.chain with hc | hc
  ·exact .inl hc
  ·unfold chainedB at hc
   simp only [Bool.or_eq_true,beq_iff_eq] at hc
   exact .inr hc

theorem At.pos {f:Int} {M:St} {e:Edge} {l:Int} {n:Nat} (hM:Fine f M) (h:At f M e l n):∃ m,n=m + 1:=by
 have h1:=(leads_cases h.lead).1
 have hd:=h.deep
 unfold plainB at h1
 split at h1
 ·cases h1
 ·rename_i hc
  simp only [Bool.or_eq_true,decide_eq_true_eq,not_or] at hc
  exact ⟨n - 1,by omega⟩

theorem pre_flat {f:Int} {M:St} {e:Edge} {l:Int} {n:Nat} (hM:Fine f M) (h:At f M e l n):Flat (preL f e):=by
 obtain ⟨t0,t1,_⟩:=h.tag hM
 obtain ⟨a,b,_⟩:=dB_flat t0 t1
 unfold preL Flat
 split
 ·intro x hx
  simp at hx
  rcases hx with rfl | rfl
  ·exact ⟨a,b⟩
  ·decide
 ·intro x hx;simp at hx

theorem leaf_flat {f:Int} {M:St} {e:Edge} {l:Int} {n:Nat} (hM:Fine f M) (h:At f M e l n) (h0:0 ≤ e.to) (h2:e.to < 2):Flat (leafL f e):=by
 obtain ⟨t0,t1,_⟩:=h.tag hM
 obtain ⟨a,b,_⟩:=dB_flat t0 t1
 obtain ⟨c,d,_⟩:=dB_flat (k:=e.to) h0 (by omega)
 unfold leafL Flat
 split
 ·split
  ·intro x hx;simp at hx;subst hx;decide
  ·intro x hx
   simp at hx
   rcases hx with rfl | rfl | rfl
   ·exact ⟨a,b⟩
   ·decide
   ·decide
 ·intro x hx;simp at hx;subst hx;exact ⟨c,d⟩

theorem mid_flat (f:Int) {r:Rec} (h0:0 ≤ r.top) (h1:r.top ≤ r.bot) (h2:r.bot < 10):Flat (midL f r):=by
 obtain ⟨a,b,_⟩:=dB_flat (k:=r.top) h0 (by omega)
 obtain ⟨c,d,_⟩:=dB_flat (k:=r.bot) (by omega) h2
 unfold midL Flat
 split
 ·intro x hx
  simp at hx
  rcases hx with rfl | rfl | rfl | rfl
  ·exact ⟨a,b⟩
  ·decide
  ·exact ⟨c,d⟩
  ·decide
 ·intro x hx
  simp at hx
  rcases hx with rfl | rfl
  ·exact ⟨a,b⟩
  ·decide

theorem scan_text {f:Int} {M:St} (hM:Fine f M):∀ (n:Nat) (e:Edge) (l:Int) (v:List UInt8) (d:Nat),At f M e l n → scanL (unfL f M n e ++ v) (d + 1)=(unfL f M n e).length + scanL v (d + 1):=by
 intro n
 induction n with
 | zero=>intro e l v d h;obtain ⟨m,hm⟩:=h.pos hM;omega
 | succ n ih=>
  intro e l v d h
  rcases h.cases hM with ⟨h0,h2⟩ | ⟨r,hl,_,_,tb,_,t0,t1,b1,_,hlo,hhi⟩
  ·rw [unfL_leaf h0 h2,scan_flat (leaf_flat hM h h0 h2)]
  ·rw [unfL_node hl,List.append_assoc,scan_flat (pre_flat hM h)]
   unfold nodeL
   rw [List.cons_append,scanL,if_pos rfl,List.append_assoc,scan_flat (mid_flat f t0 tb b1),List.append_assoc,ih _ _ _ _ hlo,List.cons_append,scanL,if_neg (by decide),if_neg (by decide),List.append_assoc,ih _ _ _ _ hhi,
    List.cons_append,scanL,if_neg (by decide),if_pos rfl]
   simp only [List.nil_append,List.length_append,List.length_cons,List.length_nil]
   omega

theorem scan_node {f:Int} {M:St} (hM:Fine f M) {n:Nat} {r:Rec} (t0:0 ≤ r.top) (tb:r.top ≤ r.bot) (b1:r.bot < 10) (hlo:At f M r.lo (r.bot + 1) n) (hhi:At f M r.hi (r.bot + 1) n) (v:List UInt8) :
  ∃ u,nodeL f M n r ++ v=40 :: u ∧ (40 :: u).take (1 + scanL u 1)=nodeL f M n r:=by
 refine ⟨midL f r ++ (unfL f M n r.lo ++ 32 :: (unfL f M n r.hi ++ [41])) ++ v,rfl,?_⟩
 have hs:scanL (midL f r ++ (unfL f M n r.lo ++ 32 :: (unfL f M n r.hi ++ [41])) ++ v) 1=(midL f r ++ (unfL f M n r.lo ++ 32 :: (unfL f M n r.hi ++ [41]))).length:=by
  rw [List.append_assoc,scan_flat (mid_flat f t0 tb b1),List.append_assoc,scan_text hM _ _ _ _ _ hlo,List.cons_append,scanL,if_neg (by decide),if_neg (by decide),List.append_assoc,scan_text hM _ _ _ _ _ hhi,
    List.cons_append,scanL,if_neg (by decide),if_pos rfl,scanL_zero]
  simp only [List.length_append,List.length_cons,List.length_nil]
  omega
 have hn:1 + (midL f r ++ (unfL f M n r.lo ++ 32 :: (unfL f M n r.hi ++ [41]))).length=(nodeL f M n r).length:=by unfold nodeL;rw [List.length_cons];omega
 rw [hs,hn]
 show (nodeL f M n r ++ v).take _=_
 rw [List.take_left]

def idsO (M:St):Nat → Edge → List Int
 | 0,_=>[]
 | n + 1,e=>if e.to < 2 then [] else e.to :: (idsO M n (grec (look M.cs e.to)).lo ++ idsO M n (grec (look M.cs e.to)).hi)

theorem unfL_deep {f:Int} {M:St} (hM:Fine f M):∀ (n m:Nat) (e:Edge) (l l':Int),At f M e l n → At f M e l' m → unfL f M n e=unfL f M m e:=by
 intro n
 induction n with
 | zero=>intro m e l l' h _;obtain ⟨q,hq⟩:=h.pos hM;omega
 | succ n ih=>
  intro m e l l' h h'
  obtain ⟨m,rfl⟩:=h'.pos hM
  rcases h.cases hM with ⟨h0,h2⟩ | ⟨r,hl,_,_,_,_,_,_,_,_,hlo,hhi⟩
  ·rw [unfL_leaf h0 h2,unfL_leaf h0 h2]
  ·rcases h'.cases hM with ⟨h0,h2⟩ | ⟨r',hl',_,_,_,_,_,_,_,_,hlo',hhi'⟩
   ·have:=(look_some hl).1;omega
   ·rw [hl] at hl'
    cases hl'
    rw [unfL_node hl,unfL_node hl]
    unfold nodeL
    rw [ih m _ _ _ hlo hlo',ih m _ _ _ hhi hhi']

def textI (f:Int) (M:St) (id:Int):List UInt8:=match look M.cs id with | some r=>nodeL f M 11 r | none=>[]

theorem node_deep {f:Int} {M:St} (hM:Fine f M) {n:Nat} {id:Int} {r:Rec} (hl:look M.cs id=some r) (hlo:At f M r.lo (r.bot + 1) n) (hhi:At f M r.hi (r.bot + 1) n) (hb:0 ≤ r.bot):nodeL f M n r=textI f M id:=by
 have h9:=hM.n9
 unfold textI
 rw [hl]
 unfold nodeL
 dsimp only
 rw [unfL_deep hM n 11 _ _ _ hlo ⟨hlo.lead,hlo.ok,by omega⟩,unfL_deep hM n 11 _ _ _ hhi ⟨hhi.lead,hhi.ok,by omega⟩]

theorem ps_text {f:Int} {M:St} (hM:Fine f M):∀ (n:Nat) (e:Edge) (l:Int) (v:List UInt8) (out:List (List UInt8)),At f M e l n → ps (unfL f M n e ++ v) out=ps v (((idsO M n e).map (textI f M)).foldl addOne out):=by
 intro n
 induction n with
 | zero=>intro e l v out h;obtain ⟨m,hm⟩:=h.pos hM;omega
 | succ n ih=>
  intro e l v out h
  rcases h.cases hM with ⟨h0,h2⟩ | ⟨r,hl,_,_,tb,_,t0,t1,b1,_,hlo,hhi⟩
  ·rw [unfL_leaf h0 h2,ps_flat (leaf_flat hM h h0 h2)]
   unfold idsO
   rw [if_pos h2]
   rfl
  ·have hg:grec (look M.cs e.to)=r:=by rw [hl];rfl
   rw [unfL_node hl,List.append_assoc,ps_flat (pre_flat hM h)]
   obtain ⟨u,hu,ht⟩:=scan_node hM t0 tb b1 hlo hhi v
   have hu2:u=midL f r ++ (unfL f M n r.lo ++ 32 :: (unfL f M n r.hi ++ [41])) ++ v:=by
    have:nodeL f M n r ++ v=40 :: (midL f r ++ (unfL f M n r.lo ++ 32 :: (unfL f M n r.hi ++ [41])) ++ v):=rfl
    rw [this] at hu
    exact (List.cons.inj hu).2.symm
   rw [hu]
   show ps u _=_
   rw [if_pos rfl,ht,hu2,List.append_assoc,ps_flat (mid_flat f t0 tb b1),List.append_assoc,ih _ _ _ _ hlo]
   show ps (unfL f M n r.hi ++ [41] ++ v) _=_
   rw [List.append_assoc,ih _ _ _ _ hhi]
   show ps v _=ps v _
   rw [node_deep hM hl hlo hhi (by omega)]
   rw [show idsO M (n + 1) e=if e.to < 2 then [] else e.to :: (idsO M n (grec (look M.cs e.to)).lo ++ idsO M n (grec (look M.cs e.to)).hi) from rfl,if_neg (show ¬ e.to < 2 by have:=(look_some hl).1;omega),hg]
   simp only [List.map_cons,List.map_append,List.foldl_cons,List.foldl_append]
   rfl

theorem cons_split {a b:UInt8} {u v:List UInt8} (h:a :: u=b :: v):a=b ∧ u=v:=List.cons.inj h

theorem edge_eq {f:Int} {M:St} {e e':Edge} {l l':Int} {n n':Nat} (hM:Fine f M) (h:At f M e l n) (h':At f M e' l' n') (ht:e.to=e'.to) (hp:f=5 → e.to ≠ 0 → dB e.tag=dB e'.tag):e=e':=by
 obtain ⟨a0,a1,a2,_⟩:=h.tag hM
 obtain ⟨b0,b1,b2,_⟩:=h'.tag hM
 have:e.tag=e'.tag:=by
  by_cases hc:f=5 ∧ e.to ≠ 0
  ·exact dB_inj a0 a1 b0 b1 (hp hc.1 hc.2)
  ·have h1:f ≠ 5 ∨ e.to=0:=by
    by_cases h5:f=5
    ·right;exact Classical.byContradiction fun hn=>hc ⟨h5,hn⟩
    ·exact .inl h5
   rw [a2 h1,b2 (by rw [← ht];exact h1)]
 cases e
 cases e'
 simp only at ht this
 rw [ht,this]

theorem rec_eq {f:Int} {r r':Rec} (h1:r.form=f) (h2:r'.form=f) (h3:r.top=r'.top) (h4:r.bot=r'.bot) (h5:r.lo=r'.lo) (h6:r.hi=r'.hi):r=r':=by
 cases r
 cases r'
 simp only at h1 h2 h3 h4 h5 h6
 rw [h1,h2,h3,h4,h5,h6]

theorem text_inj {f:Int} {M:St} (hM:Fine f M):∀ (n n':Nat) (e e':Edge) (l l':Int) (x x':List UInt8),At f M e l n → At f M e' l' n' → x.head? ≠ some 64 → x'.head? ≠ some 64 → unfL f M n e ++ x=unfL f M n' e' ++ x' → e=e' ∧ x=x':=by
 intro n
 induction n with
 | zero=>intro n' e e' l l' x x' h;obtain ⟨m,hm⟩:=h.pos hM;omega
 | succ n ih=>
  intro n' e e' l l' x x' h h' hx hx' heq
  obtain ⟨n',rfl⟩:=h'.pos hM
  obtain ⟨a0,a1,a2,_⟩:=h.tag hM
  obtain ⟨b0,b1,b2,_⟩:=h'.tag hM
  have da:=dB_flat a0 a1
  have db:=dB_flat b0 b1
  have hnode:∀ {k:Nat} {r:Rec} {y:List UInt8},∃ u,nodeL f M k r ++ y=40 :: u:=fun {k r y}=>⟨_,rfl⟩
  rcases h.cases hM with ⟨h0,h2⟩ | ⟨r,hl,hf,_,tb,_,t0,t1,bb,hch,hlo,hhi⟩
  ·rw [unfL_leaf h0 h2] at heq
   rcases h'.cases hM with ⟨h0',h2'⟩ | ⟨r',hl',_⟩
   ·rw [unfL_leaf h0' h2'] at heq
    unfold leafL at heq
    by_cases h5:f=5
    ·rw [if_pos h5,if_pos h5] at heq
     by_cases z:e.to=0
     ·by_cases z':e'.to=0
      ·rw [if_pos z,if_pos z'] at heq
       obtain ⟨_,q⟩:=cons_split heq
       exact ⟨edge_eq hM h h' (by omega) (fun _ hn=>absurd z hn),q⟩
      ·rw [if_pos z,if_neg z'] at heq
       obtain ⟨_,q⟩:=cons_split heq
       exact absurd (by rw [show x=64 :: (49 :: x') from q];rfl) hx
     ·by_cases z':e'.to=0
      ·rw [if_neg z,if_pos z'] at heq
       obtain ⟨_,q⟩:=cons_split heq
       exact absurd (by rw [show x'=64 :: (49 :: x) from q.symm];rfl) hx'
      ·rw [if_neg z,if_neg z'] at heq
       obtain ⟨q1,q⟩:=cons_split heq
       obtain ⟨_,q⟩:=cons_split q
       obtain ⟨_,q⟩:=cons_split q
       exact ⟨edge_eq hM h h' (by omega) (fun _ _=>q1),q⟩
    ·rw [if_neg h5,if_neg h5] at heq
     obtain ⟨q1,q⟩:=cons_split heq
     exact ⟨edge_eq hM h h' (dB_inj h0 (by omega) h0' (by omega) q1) (fun hh=>absurd hh h5),q⟩
   ·rw [unfL_node hl',List.append_assoc] at heq
    obtain ⟨u,hu⟩:=hnode (k:=n') (r:=r') (y:=x')
    rw [hu] at heq
    unfold leafL preL at heq
    by_cases h5:f=5
    ·rw [if_pos h5,if_pos h5] at heq
     by_cases z:e.to=0
     ·rw [if_pos z] at heq
      obtain ⟨_,q⟩:=cons_split heq
      exact absurd (by rw [show x=64 :: (40 :: u) from q];rfl) hx
     ·rw [if_neg z] at heq
      obtain ⟨_,q⟩:=cons_split heq
      obtain ⟨_,q⟩:=cons_split q
      obtain ⟨q,_⟩:=cons_split q
      exact absurd q (by decide)
    ·rw [if_neg h5,if_neg h5] at heq
     obtain ⟨q1,_⟩:=cons_split heq
     exact absurd q1 (dB_flat h0 (by omega)).1
  ·have hl2:=(look_some hl).1
   rw [unfL_node hl,List.append_assoc] at heq
   rcases h'.cases hM with ⟨h0',h2'⟩ | ⟨r',hl',hf',_,tb',_,t0',t1',bb',hch',hlo',hhi'⟩
   ·rw [unfL_leaf h0' h2'] at heq
    obtain ⟨u,hu⟩:=hnode (k:=n) (r:=r) (y:=x)
    rw [hu] at heq
    unfold leafL preL at heq
    by_cases h5:f=5
    ·rw [if_pos h5,if_pos h5] at heq
     by_cases z:e'.to=0
     ·rw [if_pos z] at heq
      obtain ⟨_,q⟩:=cons_split heq
      exact absurd (by rw [show x'=64 :: (40 :: u) from q.symm];rfl) hx'
     ·rw [if_neg z] at heq
      obtain ⟨_,q⟩:=cons_split heq
      obtain ⟨_,q⟩:=cons_split q
      obtain ⟨q,_⟩:=cons_split q
      exact absurd q (by decide)
    ·rw [if_neg h5,if_neg h5] at heq
     obtain ⟨q1,_⟩:=cons_split heq
     exact absurd q1.symm (dB_flat h0' (by omega)).1
   ·have hl2':=(look_some hl').1
    rw [unfL_node hl',List.append_assoc] at heq
    have hsp:(f=5 → dB e.tag=dB e'.tag) ∧ nodeL f M n r ++ x=nodeL f M n' r' ++ x':=by
     unfold preL at heq
     by_cases h5:f=5
     ·rw [if_pos h5,if_pos h5] at heq
      obtain ⟨q1,q⟩:=cons_split heq
      obtain ⟨_,q⟩:=cons_split q
      exact ⟨fun _=>q1,q⟩
     ·rw [if_neg h5,if_neg h5] at heq
      exact ⟨fun hh=>absurd hh h5,heq⟩
    obtain ⟨htag,heq⟩:=hsp
    unfold nodeL at heq
    simp only [List.cons_append,List.append_assoc,List.nil_append] at heq
    obtain ⟨_,heq⟩:=cons_split heq
    have hmid:r.top=r'.top ∧ r.bot=r'.bot ∧ unfL f M n r.lo ++ 32 :: (unfL f M n r.hi ++ 41 :: x)=unfL f M n' r'.lo ++ 32 :: (unfL f M n' r'.hi ++ 41 :: x'):=by
     unfold midL at heq
     by_cases h34:f=3 ∨ f=4
     ·rw [if_pos h34,if_pos h34] at heq
      obtain ⟨q1,q⟩:=cons_split heq
      obtain ⟨_,q⟩:=cons_split q
      obtain ⟨q2,q⟩:=cons_split q
      obtain ⟨_,q⟩:=cons_split q
      exact ⟨dB_inj t0 t1 t0' t1' q1,dB_inj (by omega) bb (by omega) bb' q2,q⟩
     ·rw [if_neg h34,if_neg h34] at heq
      obtain ⟨q1,q⟩:=cons_split heq
      obtain ⟨_,q⟩:=cons_split q
      have ht:=dB_inj t0 t1 t0' t1' q1
      have c1:r.top=r.bot:=by rcases hch with c | c;exact c;exact absurd c h34
      have c2:r'.top=r'.bot:=by rcases hch' with c | c;exact c;exact absurd c h34
      exact ⟨ht,by omega,q⟩
    obtain ⟨m1,m2,heq⟩:=hmid
    obtain ⟨e1,heq⟩:=ih n' r.lo r'.lo _ _ _ _ hlo hlo' (by simp) (by simp) heq
    obtain ⟨_,heq⟩:=cons_split heq
    obtain ⟨e2,heq⟩:=ih n' r.hi r'.hi _ _ _ _ hhi hhi' (by simp) (by simp) heq
    obtain ⟨_,hxx⟩:=cons_split heq
    have er:=rec_eq hf hf' m1 m2 e1 e2
    subst er
    exact ⟨edge_eq hM h h' (hM.wf.once _ _ _ hl hl') (fun hh _=>htag hh),hxx⟩

theorem textI_inj {f:Int} {M:St} (hM:Fine f M) {i j:Int} {r s:Rec} (hi:look M.cs i=some r) (hj:look M.cs j=some s) (hf:r.form=f) (hf2:s.form=f) (p1:0 ≤ r.top) (p2:0 ≤ s.top) (h:textI f M i=textI f M j):i=j:=by
 have h9:=hM.n9
 have mk:∀ {id:Int} {q:Rec},look M.cs id=some q → q.form=f → 0 ≤ q.top → 0 ≤ q.top ∧ q.top < 10 ∧ q.top ≤ q.bot ∧ q.bot < 10 ∧ (q.top=q.bot ∨ f=3 ∨ f=4) ∧ At f M q.lo (q.bot + 1) 11 ∧ At f M q.hi (q.bot + 1) 11:=fun {id q} hl hq h0=>by
  have g:=hM.wf.goodRec hl
  have hok:=hM.fit _ _ hl
  have h1:=g.tb
  have h2:=g.bn
  subst hq
  refine ⟨h0,by omega,h1,by omega,?_,⟨g.lo,hok.1,by omega⟩,⟨g.hi,hok.2,by omega⟩⟩
  rcases g.chain with hc | hc
  ·exact .inl hc
  ·unfold chainedB at hc
   simp only [Bool.or_eq_true,beq_iff_eq] at hc
   exact .inr hc
 obtain ⟨t0,t1,tb,bb,hch,hlo,hhi⟩:=mk hi hf p1
 obtain ⟨t0',t1',tb',bb',hch',hlo',hhi'⟩:=mk hj hf2 p2
 unfold textI at h
 rw [hi,hj] at h
 dsimp only at h
 unfold nodeL at h
 obtain ⟨_,heq⟩:=cons_split h
 have hmid:r.top=s.top ∧ r.bot=s.bot ∧ unfL f M 11 r.lo ++ 32 :: (unfL f M 11 r.hi ++ [41])=unfL f M 11 s.lo ++ 32 :: (unfL f M 11 s.hi ++ [41]):=by
  unfold midL at heq
  by_cases h34:f=3 ∨ f=4
  ·rw [if_pos h34,if_pos h34] at heq
   obtain ⟨q1,q⟩:=cons_split heq
   obtain ⟨_,q⟩:=cons_split q
   obtain ⟨q2,q⟩:=cons_split q
   obtain ⟨_,q⟩:=cons_split q
   exact ⟨dB_inj t0 t1 t0' t1' q1,dB_inj (by omega) bb (by omega) bb' q2,q⟩
  ·rw [if_neg h34,if_neg h34] at heq
   obtain ⟨q1,q⟩:=cons_split heq
   obtain ⟨_,q⟩:=cons_split q
   have ht:=dB_inj t0 t1 t0' t1' q1
   have c1:r.top=r.bot:=by rcases hch with c | c;exact c;exact absurd c h34
   have c2:s.top=s.bot:=by rcases hch' with c | c;exact c;exact absurd c h34
   exact ⟨ht,by omega,q⟩
 obtain ⟨m1,m2,heq⟩:=hmid
 obtain ⟨e1,heq⟩:=text_inj hM 11 11 r.lo s.lo _ _ _ _ hlo hlo' (by simp) (by simp) heq
 obtain ⟨_,heq⟩:=cons_split heq
 obtain ⟨e2,_⟩:=text_inj hM 11 11 r.hi s.hi _ _ _ _ hhi hhi' (by decide) (by decide) heq
 have er:=rec_eq hf hf2 m1 m2 e1 e2
 subst er
 exact hM.wf.once _ _ _ hi hj

theorem idsO_mem {f:Int} {M:St} (hM:Fine f M):∀ (n:Nat) (e:Edge) (l:Int),At f M e l n → (∀ x,x ∈ idsO M n e ↔ Reaches M.cs [e.to] x) ∧ ∀ x ∈ idsO M n e,∃ r,look M.cs x=some r ∧ r.form=f ∧ 0 ≤ r.top:=by
 intro n
 induction n with
 | zero=>intro e l h;obtain ⟨m,hm⟩:=h.pos hM;omega
 | succ n ih=>
  intro e l h
  rcases h.cases hM with ⟨h0,h2⟩ | ⟨r,hl,hf,_,_,_,t0,_,_,_,hlo,hhi⟩
  ·have he:idsO M (n + 1) e=[]:=by
    show (if e.to < 2 then [] else _)=_
    rw [if_pos h2]
   rw [he]
   refine ⟨fun x=>⟨fun hx=>by simp at hx,fun hx=>?_⟩,fun x hx=>by simp at hx⟩
   exact (hx (fun _=>False) (fun y hy hly=>by
    rw [List.mem_singleton] at hy
    subst hy
    cases hk:look M.cs e.to with
    | none=>exact hly hk
    | some q=>have:=(look_some hk).1;omega) (fun _ _ hh _=>hh.elim)).elim
  ·have hg:grec (look M.cs e.to)=r:=by rw [hl];rfl
   have he:idsO M (n + 1) e=e.to :: (idsO M n r.lo ++ idsO M n r.hi):=by
    show (if e.to < 2 then [] else _)=_
    rw [if_neg (show ¬ e.to < 2 by have:=(look_some hl).1;omega),hg]
   obtain ⟨i1,i2⟩:=ih _ _ hlo
   obtain ⟨j1,j2⟩:=ih _ _ hhi
   have hroot:Reaches M.cs [e.to] e.to:=Reaches.root (by simp) (by rw [hl];simp)
   have hcl:=Reaches.closed M.cs [e.to] e.to r hroot hl
   rw [he]
   refine ⟨fun x=>⟨fun hx=>?_,fun hx=>?_⟩,fun x hx=>?_⟩
   ·rcases List.mem_cons.1 hx with rfl | hx
    ·exact hroot
    ·rcases List.mem_append.1 hx with hx | hx
     ·exact ((i1 x).1 hx).below (fun y hy hly=>by rw [List.mem_singleton] at hy;subst hy;exact hcl.1 hly)
     ·exact ((j1 x).1 hx).below (fun y hy hly=>by rw [List.mem_singleton] at hy;subst hy;exact hcl.2 hly)
   ·refine hx (fun y=>y ∈ e.to :: (idsO M n r.lo ++ idsO M n r.hi)) (fun y hy _=>by rw [List.mem_singleton] at hy;subst hy;exact List.mem_cons_self) ?_
    intro id q hid hq
    rcases List.mem_cons.1 hid with rfl | hid
    ·rw [hl] at hq
     cases hq
     exact ⟨fun hh=>List.mem_cons_of_mem _ (List.mem_append_left _ ((i1 _).2 (Reaches.root (by simp) hh))),fun hh=>List.mem_cons_of_mem _ (List.mem_append_right _ ((j1 _).2 (Reaches.root (by simp) hh)))⟩
    ·rcases List.mem_append.1 hid with hid | hid
     ·have hc:=Reaches.closed M.cs [r.lo.to] id q ((i1 id).1 hid) hq
      exact ⟨fun hh=>List.mem_cons_of_mem _ (List.mem_append_left _ ((i1 _).2 (hc.1 hh))),fun hh=>List.mem_cons_of_mem _ (List.mem_append_left _ ((i1 _).2 (hc.2 hh)))⟩
     ·have hc:=Reaches.closed M.cs [r.hi.to] id q ((j1 id).1 hid) hq
      exact ⟨fun hh=>List.mem_cons_of_mem _ (List.mem_append_right _ ((j1 _).2 (hc.1 hh))),fun hh=>List.mem_cons_of_mem _ (List.mem_append_right _ ((j1 _).2 (hc.2 hh)))⟩
   ·rcases List.mem_cons.1 hx with rfl | hx
    ·exact ⟨r,hl,hf,t0⟩
    ·rcases List.mem_append.1 hx with hx | hx
     ·exact i2 x hx
     ·exact j2 x hx

theorem fold_once (xs:List (List UInt8)):∀ out:List (List UInt8),out.Nodup → (xs.foldl addOne out).Nodup ∧ ∀ y,y ∈ xs.foldl addOne out ↔ y ∈ out ∨ y ∈ xs:=by
 induction xs with
 | nil=>intro out h;exact ⟨h,fun y=>by simp⟩
 | cons x xs ih=>
  intro out h
  have hn:(addOne out x).Nodup ∧ ∀ y,y ∈ addOne out x ↔ y ∈ out ∨ y=x:=by
   unfold addOne
   split
   ·rename_i hm
    exact ⟨h,fun y=>⟨.inl,fun hh=>by rcases hh with hh | rfl;exact hh;exact hm⟩⟩
   ·rename_i hm
    refine ⟨List.nodup_append.2 ⟨h,by simp,fun a ha b hb e=>?_⟩,fun y=>by simp⟩
    rw [List.mem_singleton] at hb
    subst hb
    subst e
    exact hm ha
  obtain ⟨i1,i2⟩:=ih _ hn.1
  refine ⟨i1,fun y=>?_⟩
  rw [List.foldl_cons,i2,hn.2,List.mem_cons]
  exact ⟨fun hh=>by rcases hh with (hh | hh) | hh;exact .inl hh;exact .inr (.inl hh);exact .inr (.inr hh),fun hh=>by rcases hh with hh | hh | hh;exact .inl (.inl hh);exact .inl (.inr hh);exact .inr hh⟩

theorem nodup_len2:∀ {a b:List (List UInt8)},a.Nodup → (∀ x,x ∈ a → x ∈ b) → a.length ≤ b.length:=by
 intro a
 induction a with
 | nil=>intro b _ _;exact Nat.zero_le _
 | cons x a ih=>
  intro b hn hs
  have hx:x ∈ b:=hs x (List.mem_cons_self)
  have hn2:=List.nodup_cons.1 hn
  have h1:=ih (b:=b.erase x) hn2.2 (fun y hy=>by
   have hne:y ≠ x:=fun e=>hn2.1 (e ▸ hy)
   exact (List.mem_erase_of_ne hne).2 (hs y (List.mem_cons_of_mem _ hy)))
  have h2:=List.length_erase_of_mem hx
  have h3:0 < b.length:=List.length_pos_of_mem hx
  rw [List.length_cons]
  omega

theorem nodup_map {g:Int → List UInt8}:∀ {a:List Int},a.Nodup → (∀ x y,x ∈ a → y ∈ a → g x=g y → x=y) → (a.map g).Nodup:=by
 intro a
 induction a with
 | nil=>intro _ _;exact List.nodup_nil
 | cons x a ih=>
  intro hn hinj
  have hn2:=List.nodup_cons.1 hn
  refine List.nodup_cons.2 ⟨fun hm=>?_,ih hn2.2 (fun y z hy hz=>hinj y z (List.mem_cons_of_mem _ hy) (List.mem_cons_of_mem _ hz))⟩
  obtain ⟨y,hy,he⟩:=List.mem_map.1 hm
  have:=hinj y x (List.mem_cons_of_mem _ hy) List.mem_cons_self he
  subst this
  exact hn2.1 hy

theorem parts_count {f:Int} {M:St} (hM:Fine f M) (n:Nat) (e:Edge) (l:Int) (h:At f M e l n):(partsTo (unfS f M n e) (unfS f M n e).size).length=(reachL M.cs [e.to]).length:=by
 rw [parts_len]
 have hp:=ps_text hM n e l [] [] h
 rw [List.append_nil] at hp
 rw [show (unfS f M n e).data.toList=unfL f M n e from rfl,hp]
 show (((idsO M n e).map (textI f M)).foldl addOne []).length=_
 obtain ⟨f1,f2⟩:=fold_once ((idsO M n e).map (textI f M)) [] List.nodup_nil
 obtain ⟨i1,i2⟩:=idsO_mem hM n e l h
 have hinj:∀ x y,x ∈ reachL M.cs [e.to] → y ∈ reachL M.cs [e.to] → textI f M x=textI f M y → x=y:=fun x y hx hy hxy=>by
  obtain ⟨r,hr,hrf,hrt⟩:=i2 x ((i1 x).2 (mem_reachL.1 hx))
  obtain ⟨s,hs,hsf,hst⟩:=i2 y ((i1 y).2 (mem_reachL.1 hy))
  exact textI_inj hM hr hs hrf hsf hrt hst hxy
 have g1:=nodup_map (g:=textI f M) (rising_nodup (reachL_rising M.cs [e.to])) hinj
 have hm:∀ y,y ∈ ((idsO M n e).map (textI f M)).foldl addOne [] ↔ y ∈ (reachL M.cs [e.to]).map (textI f M):=fun y=>by
  rw [f2]
  simp only [List.not_mem_nil,false_or,List.mem_map]
  exact ⟨fun ⟨x,hx,he⟩=>⟨x,mem_reachL.2 ((i1 x).1 hx),he⟩,fun ⟨x,hx,he⟩=>⟨x,(i1 x).2 (mem_reachL.1 hx),he⟩⟩
 have e1:=nodup_len2 f1 (fun y hy=>(hm y).1 hy)
 have e2:=nodup_len2 g1 (fun y hy=>(hm y).2 hy)
 rw [List.length_map] at e1 e2
 omega

end Go.Proofs.YtpgcbmbnognieaaGreat
