/-
  The walk of ramageref12.Parts.
-/
import Derived.Test.YtpgcbmbnognieaaGreatPSoundP
import Derived.Maps.OwnIn
namespace Go.Proofs.YtpgcbmbnognieaaGreat
set_option maxRecDepth 1000000
set_option maxHeartbeats 8000000
set_option linter.unusedSimpArgs false
set_option linter.unusedVariables false
open Go.RowKit

def scanL:List UInt8→Nat→Nat
 | [],_=>0
 | _::_,0=>0
 | b::u,d+1=>1+scanL u (if b=40 then d+2 else if b=41 then d else d+1)

theorem scanL_zero (u:List UInt8):scanL u 0=0:=by cases u<;>rfl

def endAt (l:List UInt8)(i:Nat):Nat:=i+1+scanL (l.drop (i+1)) 1

def partsTo (t:ByteArray):Nat→List ByteArray
 | 0=>[]
 | i+1=>if t.data.toList[i]?=some 40 then(if(partsTo t i).any (fun s=>s.toList==(t.extract i (endAt t.data.toList i)).toList) then partsTo t i else partsTo t i++[t.extract i (endAt t.data.toList i)]) else partsTo t i

def addOne (out:List (List UInt8))(x:List UInt8):List (List UInt8):=if x∈out then out else out++[x]

def ps:List UInt8→List (List UInt8)→List (List UInt8)
 | [],out=>out
 | b::u,out=>ps u (if b=40 then addOne out ((b::u).take (1+scanL u 1)) else out)

theorem extract_list (t:ByteArray)(i j:Nat):(t.extract i j).data.toList=(t.data.toList.drop i).take (j-i):=by
 rw [ByteArray.data_extract,Array.toList_extract]

theorem partsTo_ps (t:ByteArray):∀ (u:List UInt8) (i:Nat),t.data.toList.drop i=u→i+u.length=t.size→ps u ((partsTo t i).map (fun s=>s.data.toList))=(partsTo t t.size).map (fun s=>s.data.toList):=by
 intro u
 induction u with
 | nil=>
  intro i _ hl
  simp at hl
  rw [hl]
  rfl
 | cons b u ih=>
  intro i hd hl
  have hdu:t.data.toList.drop (i+1)=u:=by
   have:=congrArg List.tail hd
   rw [List.tail_drop] at this
   exact this
  have hb:t.data.toList[i]?=some b:=by
   have:=congrArg (fun l=>l[0]?) hd
   simp only [List.getElem?_drop,Nat.add_zero,List.getElem?_cons_zero] at this
   exact this
  rw [← ih (i+1) hdu (by simp at hl;omega)]
  show ps u _=ps u _
  congr 1
  show _=(if t.data.toList[i]?=some 40 then _ else _:List ByteArray).map _
  rw [hb]
  by_cases h40:b=40
  ·subst h40
   rw [if_pos rfl,if_pos rfl]
   have hcut:(t.extract i (endAt t.data.toList i)).data.toList=(40::u).take (1+scanL u 1):=by
    rw [extract_list,hd]
    congr 1
    unfold endAt
    rw [hdu]
    omega
   have hany:(partsTo t i).any (fun s=>s.toList==(t.extract i (endAt t.data.toList i)).toList)=decide ((40::u).take (1+scanL u 1)∈(partsTo t i).map (fun s=>s.data.toList)):=by
    rw [Bool.eq_iff_iff]
    simp only [List.any_eq_true,decide_eq_true_eq,List.mem_map,beq_iff_eq]
    constructor
    ·rintro⟨s,hs,he⟩
     rw [ByteArray.toList_eq,ByteArray.toList_eq,hcut] at he
     exact⟨s,hs,he⟩
    ·rintro⟨s,hs,he⟩
     exact⟨s,hs,by rw [ByteArray.toList_eq,ByteArray.toList_eq,hcut,he]⟩
   unfold addOne
   rw [hany]
   by_cases hm:(40::u).take (1+scanL u 1)∈(partsTo t i).map (fun s=>s.data.toList)
   ·rw [if_pos hm,decide_eq_true hm,if_pos rfl]
   ·rw [if_neg hm,decide_eq_false hm,if_neg (by decide),List.map_append,List.map_cons,hcut]
    rfl
  ·rw [if_neg h40,if_neg (fun e=>h40 (by cases e;rfl))]

def Flat (u:List UInt8):Prop:=∀ b∈u,b≠40∧b≠41

theorem scan_flat {u:List UInt8}(h:Flat u)(v:List UInt8)(d:Nat):scanL (u++v) (d+1)=u.length+scanL v (d+1):=by
 induction u with
 | nil=>simp
 | cons b u ih=>
  have hb:=h b List.mem_cons_self
  show 1+scanL (u++v) _=_
  rw [if_neg hb.1,if_neg hb.2,ih (fun x hx=>h x (List.mem_cons_of_mem _ hx)),List.length_cons]
  omega

theorem ps_flat {u:List UInt8}(h:Flat u)(v:List UInt8)(out:List (List UInt8)):ps (u++v) out=ps v out:=by
 induction u generalizing out with
 | nil=>rfl
 | cons b u ih=>
  have hb:=h b List.mem_cons_self
  show ps (u++v) _=_
  rw [if_neg hb.1,ih (fun x hx=>h x (List.mem_cons_of_mem _ hx))]

def dB (k:Int):UInt8:=UInt8.ofNat (48+k).toNat

theorem dB_flat {k:Int}(h0:0≤k)(h1:k<10):dB k≠40∧dB k≠41∧dB k≠64:=by
 have:k=0∨k=1∨k=2∨k=3∨k=4∨k=5∨k=6∨k=7∨k=8∨k=9:=by omega
 rcases this with rfl|rfl|rfl|rfl|rfl|rfl|rfl|rfl|rfl|rfl<;>decide

theorem dB_inj {k j:Int}(h0:0≤k)(h1:k<10)(h2:0≤j)(h3:j<10)(h:dB k=dB j):k=j:=by
 have:=congrArg UInt8.toNat h
 unfold dB at this
 rw [UInt8.toNat_ofNat',UInt8.toNat_ofNat'] at this
 omega

def unfL (f:Int)(M:St)(n:Nat)(e:Edge):List UInt8:=(unfS f M n e).data.toList

def preL (f:Int)(e:Edge):List UInt8:=if f=5 then [dB e.tag,64] else []
def midL (f:Int)(r:Rec):List UInt8:=if f=3∨f=4 then [dB r.top,58,dB r.bot,32] else [dB r.top,32]
def leafL (f:Int)(e:Edge):List UInt8:=if f=5 then(if e.to=0 then [48] else [dB e.tag,64,49]) else [dB e.to]

def nodeL (f:Int)(M:St)(n:Nat)(r:Rec):List UInt8:=40::(midL f r++(unfL f M n r.lo++32::(unfL f M n r.hi++[41])))

theorem digS_list (k:Int):(digS k).data.toList=[dB k]:=rfl

theorem unfL_leaf {f:Int}{M:St}{n:Nat}{e:Edge}(h0:0≤e.to)(h:e.to<2):unfL f M (n+1) e=leafL f e:=by
 unfold unfL unfS leafL
 by_cases h5:f=5
 ·rw [if_pos h5,if_pos h5]
  by_cases hz:e.to=0
  ·rw [if_pos hz,if_pos hz]
  ·rw [if_neg hz,if_neg hz,if_pos (by omega)]
   simp [ByteArray.data_append,digS_list]
 ·rw [if_neg h5,if_neg h5,if_pos h]
  rfl

theorem unfL_node {f:Int}{M:St}{n:Nat}{e:Edge}{r:Rec}(h:look M.cs e.to=some r):unfL f M (n+1) e=preL f e++nodeL f M n r:=by
 have h2:=(look_some h).1
 have hg:grec (look M.cs e.to)=r:=by rw [h];rfl
 unfold unfL unfS preL nodeL midL
 rw [hg]
 by_cases h5:f=5
 ·rw [if_pos h5,if_pos h5,if_neg (by omega),if_neg (by omega),if_neg (by omega)]
  simp [ByteArray.data_append,digS_list,unfL]
 ·rw [if_neg h5,if_neg h5,if_neg (by omega)]
  by_cases h34:f=3∨f=4
  ·rw [if_pos h34,if_pos h34]
   simp [ByteArray.data_append,digS_list,unfL]
  ·rw [if_neg h34,if_neg h34]
   simp [ByteArray.data_append,digS_list,unfL]

structure Fine (f:Int)(M:St):Prop where
 wf:M.wf
 fit:∀ id r,look M.cs id=some r→0≤r.lo.to∧0≤r.hi.to
 n9:M.n≤9

structure At (f:Int)(M:St)(e:Edge)(l:Int)(n:Nat):Prop where
 lead:M.leads f e l=true
 ok:0≤e.to
 deep:M.n<l+n

theorem At.tag {f:Int}{M:St}{e:Edge}{l:Int}{n:Nat}(hM:Fine f M)(h:At f M e l n):0≤e.tag∧e.tag<10∧(f≠5∨e.to=0→e.tag=0)∧0≤l:=by
 obtain⟨h1,_⟩:=leads_cases h.lead
 have h9:=hM.n9
 unfold plainB at h1
 split at h1
 ·cases h1
 ·rename_i hc
  simp only [Bool.or_eq_true,decide_eq_true_eq,not_or] at hc
  split at h1
  ·rename_i hc2
   have ht:e.tag=0:=by simpa using h1
   exact⟨by omega,by omega,fun _=>ht,by omega⟩
  ·rename_i hc2
   simp only [Bool.or_eq_true,bne_iff_ne,ne_eq,beq_iff_eq,not_or,Decidable.not_not] at hc2
   simp only [Bool.and_eq_true,decide_eq_true_eq] at h1
   exact⟨by omega,by omega,fun hh=>by rcases hh with hh|hh;exact absurd hc2.1 hh;exact absurd hh hc2.2,by omega⟩

theorem At.cases {f:Int}{M:St}{e:Edge}{l:Int}{n:Nat}(hM:Fine f M)(h:At f M e l (n+1)) :
  (0≤e.to∧e.to<2)∨(∃ r,look M.cs e.to=some r∧r.form=f∧l≤r.top∧r.top≤r.bot∧r.bot<M.n∧0≤r.top∧r.top<10∧r.bot<10∧(r.top=r.bot∨f=3∨f=4)∧At f M r.lo (r.bot+1) n∧At f M r.hi (r.bot+1) n):=by
 obtain⟨h1,h2⟩:=leads_cases h.lead
 have h9:=hM.n9
 rcases h2 with h2|⟨r,hl,hf,ht,_⟩
 ·exact .inl ⟨h.ok,h2⟩
 ·right
  have g:=hM.wf.goodRec hl
  have hok:=hM.fit _ _ hl
  have:=g.tb
  have:=g.bn
  have hd:=h.deep
  have hl0:=(h.tag hM).2.2.2
  subst hf
  refine⟨r,hl,rfl,ht,g.tb,g.bn,by omega,by omega,by omega,?_,⟨g.lo,hok.1,by push_cast at hd;omega⟩,⟨g.hi,hok.2,by push_cast at hd;omega⟩⟩
  rcases g.chain with hc|hc
  ·exact .inl hc
  ·unfold chainedB at hc
   simp only [Bool.or_eq_true,beq_iff_eq] at hc
   exact .inr hc

theorem At.pos {f:Int}{M:St}{e:Edge}{l:Int}{n:Nat}(hM:Fine f M)(h:At f M e l n):∃ m,n=m+1:=by
 have h1:=(leads_cases h.lead).1
 have hd:=h.deep
 unfold plainB at h1
 split at h1
 ·cases h1
 ·rename_i hc
  simp only [Bool.or_eq_true,decide_eq_true_eq,not_or] at hc
  exact⟨n-1,by omega⟩

theorem pre_flat {f:Int}{M:St}{e:Edge}{l:Int}{n:Nat}(hM:Fine f M)(h:At f M e l n):Flat (preL f e):=by
 obtain⟨t0,t1,_⟩:=h.tag hM
 obtain⟨a,b,_⟩:=dB_flat t0 t1
 unfold preL Flat
 split
 ·intro x hx
  simp at hx
  rcases hx with rfl|rfl
  ·exact⟨a,b⟩
  ·decide
 ·intro x hx;simp at hx

theorem leaf_flat {f:Int}{M:St}{e:Edge}{l:Int}{n:Nat}(hM:Fine f M)(h:At f M e l n)(h0:0≤e.to)(h2:e.to<2):Flat (leafL f e):=by
 obtain⟨t0,t1,_⟩:=h.tag hM
 obtain⟨a,b,_⟩:=dB_flat t0 t1
 obtain⟨c,d,_⟩:=dB_flat (k:=e.to) h0 (by omega)
 unfold leafL Flat
 split
 ·split
  ·intro x hx;simp at hx;subst hx;decide
  ·intro x hx
   simp at hx
   rcases hx with rfl|rfl|rfl
   ·exact⟨a,b⟩
   ·decide
   ·decide
 ·intro x hx;simp at hx;subst hx;exact⟨c,d⟩

theorem mid_flat (f:Int){r:Rec}(h0:0≤r.top)(h1:r.top≤r.bot)(h2:r.bot<10):Flat (midL f r):=by
 obtain⟨a,b,_⟩:=dB_flat (k:=r.top) h0 (by omega)
 obtain⟨c,d,_⟩:=dB_flat (k:=r.bot) (by omega) h2
 unfold midL Flat
 split
 ·intro x hx
  simp at hx
  rcases hx with rfl|rfl|rfl|rfl
  ·exact⟨a,b⟩
  ·decide
  ·exact⟨c,d⟩
  ·decide
 ·intro x hx
  simp at hx
  rcases hx with rfl|rfl
  ·exact⟨a,b⟩
  ·decide

theorem scan_text {f:Int}{M:St}(hM:Fine f M):∀ (n:Nat) (e:Edge) (l:Int) (v:List UInt8) (d:Nat),At f M e l n→scanL (unfL f M n e++v) (d+1)=(unfL f M n e).length+scanL v (d+1):=by
 intro n
 induction n with
 | zero=>intro e l v d h;obtain⟨m,hm⟩:=h.pos hM;omega
 | succ n ih=>
  intro e l v d h
  rcases h.cases hM with⟨h0,h2⟩|⟨r,hl,_,_,tb,_,t0,t1,b1,_,hlo,hhi⟩
  ·rw [unfL_leaf h0 h2,scan_flat (leaf_flat hM h h0 h2)]
  ·rw [unfL_node hl,List.append_assoc,scan_flat (pre_flat hM h)]
   unfold nodeL
   rw [List.cons_append,scanL,if_pos rfl,List.append_assoc,scan_flat (mid_flat f t0 tb b1),List.append_assoc,ih _ _ _ _ hlo,List.cons_append,scanL,if_neg (by decide),if_neg (by decide),List.append_assoc,ih _ _ _ _ hhi,
    List.cons_append,scanL,if_neg (by decide),if_pos rfl]
   simp only [List.nil_append,List.length_append,List.length_cons,List.length_nil]
   omega

theorem scan_node {f:Int}{M:St}(hM:Fine f M){n:Nat}{r:Rec}(t0:0≤r.top)(tb:r.top≤r.bot)(b1:r.bot<10)(hlo:At f M r.lo (r.bot+1) n)(hhi:At f M r.hi (r.bot+1) n)(v:List UInt8) :
  ∃ u,nodeL f M n r++v=40::u∧(40::u).take (1+scanL u 1)=nodeL f M n r:=by
 refine⟨midL f r++(unfL f M n r.lo++32::(unfL f M n r.hi++[41]))++v,rfl,?_⟩
 have hs:scanL (midL f r++(unfL f M n r.lo++32::(unfL f M n r.hi++[41]))++v) 1=(midL f r++(unfL f M n r.lo++32::(unfL f M n r.hi++[41]))).length:=by
  rw [List.append_assoc,scan_flat (mid_flat f t0 tb b1),List.append_assoc,scan_text hM _ _ _ _ _ hlo,List.cons_append,scanL,if_neg (by decide),if_neg (by decide),List.append_assoc,scan_text hM _ _ _ _ _ hhi,
    List.cons_append,scanL,if_neg (by decide),if_pos rfl,scanL_zero]
  simp only [List.length_append,List.length_cons,List.length_nil]
  omega
 have hn:1+(midL f r++(unfL f M n r.lo++32::(unfL f M n r.hi++[41]))).length=(nodeL f M n r).length:=by unfold nodeL;rw [List.length_cons];omega
 rw [hs,hn]
 show(nodeL f M n r++v).take _=_
 rw [List.take_left]

def idsO (M:St):Nat→Edge→List Int
 | 0,_=>[]
 | n+1,e=>if e.to<2 then [] else e.to::(idsO M n (grec (look M.cs e.to)).lo++idsO M n (grec (look M.cs e.to)).hi)

theorem unfL_deep {f:Int}{M:St}(hM:Fine f M):∀ (n m:Nat) (e:Edge) (l l':Int),At f M e l n→At f M e l' m→unfL f M n e=unfL f M m e:=by
 intro n
 induction n with
 | zero=>intro m e l l' h _;obtain⟨q,hq⟩:=h.pos hM;omega
 | succ n ih=>
  intro m e l l' h h'
  obtain⟨m,rfl⟩:=h'.pos hM
  rcases h.cases hM with⟨h0,h2⟩|⟨r,hl,_,_,_,_,_,_,_,_,hlo,hhi⟩
  ·rw [unfL_leaf h0 h2,unfL_leaf h0 h2]
  ·rcases h'.cases hM with⟨h0,h2⟩|⟨r',hl',_,_,_,_,_,_,_,_,hlo',hhi'⟩
   ·have:=(look_some hl).1;omega
   ·rw [hl] at hl'
    cases hl'
    rw [unfL_node hl,unfL_node hl]
    unfold nodeL
    rw [ih m _ _ _ hlo hlo',ih m _ _ _ hhi hhi']

def textI (f:Int)(M:St)(id:Int):List UInt8:=match look M.cs id with|some r=>nodeL f M 11 r|none=>[]

theorem node_deep {f:Int}{M:St}(hM:Fine f M){n:Nat}{id:Int}{r:Rec}(hl:look M.cs id=some r)(hlo:At f M r.lo (r.bot+1) n)(hhi:At f M r.hi (r.bot+1) n)(hb:0≤r.bot):nodeL f M n r=textI f M id:=by
 have h9:=hM.n9
 unfold textI
 rw [hl]
 unfold nodeL
 dsimp only
 rw [unfL_deep hM n 11 _ _ _ hlo ⟨hlo.lead,hlo.ok,by omega⟩,unfL_deep hM n 11 _ _ _ hhi ⟨hhi.lead,hhi.ok,by omega⟩]

theorem ps_text {f:Int}{M:St}(hM:Fine f M):∀ (n:Nat) (e:Edge) (l:Int) (v:List UInt8) (out:List (List UInt8)),At f M e l n→ps (unfL f M n e++v) out=ps v (((idsO M n e).map (textI f M)).foldl addOne out):=by
 intro n
 induction n with
 | zero=>intro e l v out h;obtain⟨m,hm⟩:=h.pos hM;omega
 | succ n ih=>
  intro e l v out h
  rcases h.cases hM with⟨h0,h2⟩|⟨r,hl,_,_,tb,_,t0,t1,b1,_,hlo,hhi⟩
  ·rw [unfL_leaf h0 h2,ps_flat (leaf_flat hM h h0 h2)]
   unfold idsO
   rw [if_pos h2]
   rfl
  ·have hg:grec (look M.cs e.to)=r:=by rw [hl];rfl
   rw [unfL_node hl,List.append_assoc,ps_flat (pre_flat hM h)]
   obtain⟨u,hu,ht⟩:=scan_node hM t0 tb b1 hlo hhi v
   have hu2:u=midL f r++(unfL f M n r.lo++32::(unfL f M n r.hi++[41]))++v:=by
    have:nodeL f M n r++v=40::(midL f r++(unfL f M n r.lo++32::(unfL f M n r.hi++[41]))++v):=rfl
    rw [this] at hu
    exact(List.cons.inj hu).2.symm
   rw [hu]
   show ps u _=_
   rw [if_pos rfl,ht,hu2,List.append_assoc,ps_flat (mid_flat f t0 tb b1),List.append_assoc,ih _ _ _ _ hlo]
   show ps (unfL f M n r.hi++[41]++v) _=_
   rw [List.append_assoc,ih _ _ _ _ hhi]
   show ps v _=ps v _
   rw [node_deep hM hl hlo hhi (by omega)]
   rw [show idsO M (n+1) e=if e.to<2 then [] else e.to::(idsO M n (grec (look M.cs e.to)).lo++idsO M n (grec (look M.cs e.to)).hi) from rfl,if_neg (show ¬e.to<2 by have:=(look_some hl).1;omega),hg]
   simp only [List.map_cons,List.map_append,List.foldl_cons,List.foldl_append]
   rfl

theorem cons_split {a b:UInt8}{u v:List UInt8}(h:a::u=b::v):a=b∧u=v:=List.cons.inj h

theorem edge_eq {f:Int}{M:St}{e e':Edge}{l l':Int}{n n':Nat}(hM:Fine f M)(h:At f M e l n)(h':At f M e' l' n')(ht:e.to=e'.to)(hp:f=5→e.to≠0→dB e.tag=dB e'.tag):e=e':=by
 obtain⟨a0,a1,a2,_⟩:=h.tag hM
 obtain⟨b0,b1,b2,_⟩:=h'.tag hM
 have:e.tag=e'.tag:=by
  by_cases hc:f=5∧e.to≠0
  ·exact dB_inj a0 a1 b0 b1 (hp hc.1 hc.2)
  ·have h1:f≠5∨e.to=0:=by
    by_cases h5:f=5
    ·right;exact Classical.byContradiction fun hn=>hc ⟨h5,hn⟩
    ·exact .inl h5
   rw [a2 h1,b2 (by rw [← ht];exact h1)]
 cases e
 cases e'
 simp only at ht this
 rw [ht,this]

theorem rec_eq {f:Int}{r r':Rec}(h1:r.form=f)(h2:r'.form=f)(h3:r.top=r'.top)(h4:r.bot=r'.bot)(h5:r.lo=r'.lo)(h6:r.hi=r'.hi):r=r':=by
 cases r
 cases r'
 simp only at h1 h2 h3 h4 h5 h6
 rw [h1,h2,h3,h4,h5,h6]

theorem text_inj {f:Int}{M:St}(hM:Fine f M):∀ (n n':Nat) (e e':Edge) (l l':Int) (x x':List UInt8),At f M e l n→At f M e' l' n'→x.head?≠some 64→x'.head?≠some 64→unfL f M n e++x=unfL f M n' e'++x'→e=e'∧x=x':=by
 intro n
 induction n with
 | zero=>intro n' e e' l l' x x' h;obtain⟨m,hm⟩:=h.pos hM;omega
 | succ n ih=>
  intro n' e e' l l' x x' h h' hx hx' heq
  obtain⟨n',rfl⟩:=h'.pos hM
  obtain⟨a0,a1,a2,_⟩:=h.tag hM
  obtain⟨b0,b1,b2,_⟩:=h'.tag hM
  have da:=dB_flat a0 a1
  have db:=dB_flat b0 b1
  have hnode:∀ {k:Nat} {r:Rec} {y:List UInt8},∃ u,nodeL f M k r++y=40::u:=fun {k r y}=>⟨_,rfl⟩
  rcases h.cases hM with⟨h0,h2⟩|⟨r,hl,hf,_,tb,_,t0,t1,bb,hch,hlo,hhi⟩
  ·rw [unfL_leaf h0 h2] at heq
   rcases h'.cases hM with⟨h0',h2'⟩|⟨r',hl',_⟩
   ·rw [unfL_leaf h0' h2'] at heq
    unfold leafL at heq
    by_cases h5:f=5
    ·rw [if_pos h5,if_pos h5] at heq
     by_cases z:e.to=0
     ·by_cases z':e'.to=0
      ·rw [if_pos z,if_pos z'] at heq
       obtain⟨_,q⟩:=cons_split heq
       exact⟨edge_eq hM h h' (by omega) (fun _ hn=>absurd z hn),q⟩
      ·rw [if_pos z,if_neg z'] at heq
       obtain⟨_,q⟩:=cons_split heq
       exact absurd (by rw [show x=64::(49::x') from q];rfl) hx
     ·by_cases z':e'.to=0
      ·rw [if_neg z,if_pos z'] at heq
       obtain⟨_,q⟩:=cons_split heq
       exact absurd (by rw [show x'=64::(49::x) from q.symm];rfl) hx'
      ·rw [if_neg z,if_neg z'] at heq
       obtain⟨q1,q⟩:=cons_split heq
       obtain⟨_,q⟩:=cons_split q
       obtain⟨_,q⟩:=cons_split q
       exact⟨edge_eq hM h h' (by omega) (fun _ _=>q1),q⟩
    ·rw [if_neg h5,if_neg h5] at heq
     obtain⟨q1,q⟩:=cons_split heq
     exact⟨edge_eq hM h h' (dB_inj h0 (by omega) h0' (by omega) q1) (fun hh=>absurd hh h5),q⟩
   ·rw [unfL_node hl',List.append_assoc] at heq
    obtain⟨u,hu⟩:=hnode (k:=n') (r:=r') (y:=x')
    rw [hu] at heq
    unfold leafL preL at heq
    by_cases h5:f=5
    ·rw [if_pos h5,if_pos h5] at heq
     by_cases z:e.to=0
     ·rw [if_pos z] at heq
      obtain⟨_,q⟩:=cons_split heq
      exact absurd (by rw [show x=64::(40::u) from q];rfl) hx
     ·rw [if_neg z] at heq
      obtain⟨_,q⟩:=cons_split heq
      obtain⟨_,q⟩:=cons_split q
      obtain⟨q,_⟩:=cons_split q
      exact absurd q (by decide)
    ·rw [if_neg h5,if_neg h5] at heq
     obtain⟨q1,_⟩:=cons_split heq
     exact absurd q1 (dB_flat h0 (by omega)).1
  ·have hl2:=(look_some hl).1
   rw [unfL_node hl,List.append_assoc] at heq
   rcases h'.cases hM with⟨h0',h2'⟩|⟨r',hl',hf',_,tb',_,t0',t1',bb',hch',hlo',hhi'⟩
   ·rw [unfL_leaf h0' h2'] at heq
    obtain⟨u,hu⟩:=hnode (k:=n) (r:=r) (y:=x)
    rw [hu] at heq
    unfold leafL preL at heq
    by_cases h5:f=5
    ·rw [if_pos h5,if_pos h5] at heq
     by_cases z:e'.to=0
     ·rw [if_pos z] at heq
      obtain⟨_,q⟩:=cons_split heq
      exact absurd (by rw [show x'=64::(40::u) from q.symm];rfl) hx'
     ·rw [if_neg z] at heq
      obtain⟨_,q⟩:=cons_split heq
      obtain⟨_,q⟩:=cons_split q
      obtain⟨q,_⟩:=cons_split q
      exact absurd q (by decide)
    ·rw [if_neg h5,if_neg h5] at heq
     obtain⟨q1,_⟩:=cons_split heq
     exact absurd q1.symm (dB_flat h0' (by omega)).1
   ·have hl2':=(look_some hl').1
    rw [unfL_node hl',List.append_assoc] at heq
    have hsp:(f=5→dB e.tag=dB e'.tag)∧nodeL f M n r++x=nodeL f M n' r'++x':=by
     unfold preL at heq
     by_cases h5:f=5
     ·rw [if_pos h5,if_pos h5] at heq
      obtain⟨q1,q⟩:=cons_split heq
      obtain⟨_,q⟩:=cons_split q
      exact⟨fun _=>q1,q⟩
     ·rw [if_neg h5,if_neg h5] at heq
      exact⟨fun hh=>absurd hh h5,heq⟩
    obtain⟨htag,heq⟩:=hsp
    unfold nodeL at heq
    simp only [List.cons_append,List.append_assoc,List.nil_append] at heq
    obtain⟨_,heq⟩:=cons_split heq
    have hmid:r.top=r'.top∧r.bot=r'.bot∧unfL f M n r.lo++32::(unfL f M n r.hi++41::x)=unfL f M n' r'.lo++32::(unfL f M n' r'.hi++41::x'):=by
     unfold midL at heq
     by_cases h34:f=3∨f=4
     ·rw [if_pos h34,if_pos h34] at heq
      obtain⟨q1,q⟩:=cons_split heq
      obtain⟨_,q⟩:=cons_split q
      obtain⟨q2,q⟩:=cons_split q
      obtain⟨_,q⟩:=cons_split q
      exact⟨dB_inj t0 t1 t0' t1' q1,dB_inj (by omega) bb (by omega) bb' q2,q⟩
     ·rw [if_neg h34,if_neg h34] at heq
      obtain⟨q1,q⟩:=cons_split heq
      obtain⟨_,q⟩:=cons_split q
      have ht:=dB_inj t0 t1 t0' t1' q1
      have c1:r.top=r.bot:=by rcases hch with c|c;exact c;exact absurd c h34
      have c2:r'.top=r'.bot:=by rcases hch' with c|c;exact c;exact absurd c h34
      exact⟨ht,by omega,q⟩
    obtain⟨m1,m2,heq⟩:=hmid
    obtain⟨e1,heq⟩:=ih n' r.lo r'.lo _ _ _ _ hlo hlo' (by simp) (by simp) heq
    obtain⟨_,heq⟩:=cons_split heq
    obtain⟨e2,heq⟩:=ih n' r.hi r'.hi _ _ _ _ hhi hhi' (by simp) (by simp) heq
    obtain⟨_,hxx⟩:=cons_split heq
    have er:=rec_eq hf hf' m1 m2 e1 e2
    subst er
    exact⟨edge_eq hM h h' (hM.wf.once _ _ _ hl hl') (fun hh _=>htag hh),hxx⟩

theorem textI_inj {f:Int}{M:St}(hM:Fine f M){i j:Int}{r s:Rec}(hi:look M.cs i=some r)(hj:look M.cs j=some s)(hf:r.form=f)(hf2:s.form=f)(p1:0≤r.top)(p2:0≤s.top)(h:textI f M i=textI f M j):i=j:=by
 have h9:=hM.n9
 have mk:∀ {id:Int} {q:Rec},look M.cs id=some q→q.form=f→0≤q.top→0≤q.top∧q.top<10∧q.top≤q.bot∧q.bot<10∧(q.top=q.bot∨f=3∨f=4)∧At f M q.lo (q.bot+1) 11∧At f M q.hi (q.bot+1) 11:=fun {id q} hl hq h0=>by
  have g:=hM.wf.goodRec hl
  have hok:=hM.fit _ _ hl
  have h1:=g.tb
  have h2:=g.bn
  subst hq
  refine⟨h0,by omega,h1,by omega,?_,⟨g.lo,hok.1,by omega⟩,⟨g.hi,hok.2,by omega⟩⟩
  rcases g.chain with hc|hc
  ·exact .inl hc
  ·unfold chainedB at hc
   simp only [Bool.or_eq_true,beq_iff_eq] at hc
   exact .inr hc
 obtain⟨t0,t1,tb,bb,hch,hlo,hhi⟩:=mk hi hf p1
 obtain⟨t0',t1',tb',bb',hch',hlo',hhi'⟩:=mk hj hf2 p2
 unfold textI at h
 rw [hi,hj] at h
 dsimp only at h
 unfold nodeL at h
 obtain⟨_,heq⟩:=cons_split h
 have hmid:r.top=s.top∧r.bot=s.bot∧unfL f M 11 r.lo++32::(unfL f M 11 r.hi++[41])=unfL f M 11 s.lo++32::(unfL f M 11 s.hi++[41]):=by
  unfold midL at heq
  by_cases h34:f=3∨f=4
  ·rw [if_pos h34,if_pos h34] at heq
   obtain⟨q1,q⟩:=cons_split heq
   obtain⟨_,q⟩:=cons_split q
   obtain⟨q2,q⟩:=cons_split q
   obtain⟨_,q⟩:=cons_split q
   exact⟨dB_inj t0 t1 t0' t1' q1,dB_inj (by omega) bb (by omega) bb' q2,q⟩
  ·rw [if_neg h34,if_neg h34] at heq
   obtain⟨q1,q⟩:=cons_split heq
   obtain⟨_,q⟩:=cons_split q
   have ht:=dB_inj t0 t1 t0' t1' q1
   have c1:r.top=r.bot:=by rcases hch with c|c;exact c;exact absurd c h34
   have c2:s.top=s.bot:=by rcases hch' with c|c;exact c;exact absurd c h34
   exact⟨ht,by omega,q⟩
 obtain⟨m1,m2,heq⟩:=hmid
 obtain⟨e1,heq⟩:=text_inj hM 11 11 r.lo s.lo _ _ _ _ hlo hlo' (by simp) (by simp) heq
 obtain⟨_,heq⟩:=cons_split heq
 obtain⟨e2,_⟩:=text_inj hM 11 11 r.hi s.hi _ _ _ _ hhi hhi' (by decide) (by decide) heq
 have er:=rec_eq hf hf2 m1 m2 e1 e2
 subst er
 exact hM.wf.once _ _ _ hi hj

theorem idsO_mem {f:Int}{M:St}(hM:Fine f M):∀ (n:Nat) (e:Edge) (l:Int),At f M e l n→(∀ x,x∈idsO M n e↔Reaches M.cs [e.to] x)∧∀ x∈idsO M n e,∃ r,look M.cs x=some r∧r.form=f∧0≤r.top:=by
 intro n
 induction n with
 | zero=>intro e l h;obtain⟨m,hm⟩:=h.pos hM;omega
 | succ n ih=>
  intro e l h
  rcases h.cases hM with⟨h0,h2⟩|⟨r,hl,hf,_,_,_,t0,_,_,_,hlo,hhi⟩
  ·have he:idsO M (n+1) e=[]:=by
    show(if e.to<2 then [] else _)=_
    rw [if_pos h2]
   rw [he]
   refine⟨fun x=>⟨fun hx=>by simp at hx,fun hx=>?_⟩,fun x hx=>by simp at hx⟩
   exact(hx (fun _=>False) (fun y hy hly=>by
    rw [List.mem_singleton] at hy
    subst hy
    cases hk:look M.cs e.to with
    | none=>exact hly hk
    | some q=>have:=(look_some hk).1;omega) (fun _ _ hh _=>hh.elim)).elim
  ·have hg:grec (look M.cs e.to)=r:=by rw [hl];rfl
   have he:idsO M (n+1) e=e.to::(idsO M n r.lo++idsO M n r.hi):=by
    show(if e.to<2 then [] else _)=_
    rw [if_neg (show ¬e.to<2 by have:=(look_some hl).1;omega),hg]
   obtain⟨i1,i2⟩:=ih _ _ hlo
   obtain⟨j1,j2⟩:=ih _ _ hhi
   have hroot:Reaches M.cs [e.to] e.to:=Reaches.root (by simp) (by rw [hl];simp)
   have hcl:=Reaches.closed M.cs [e.to] e.to r hroot hl
   rw [he]
   refine⟨fun x=>⟨fun hx=>?_,fun hx=>?_⟩,fun x hx=>?_⟩
   ·rcases List.mem_cons.1 hx with rfl|hx
    ·exact hroot
    ·rcases List.mem_append.1 hx with hx|hx
     ·exact((i1 x).1 hx).below (fun y hy hly=>by rw [List.mem_singleton] at hy;subst hy;exact hcl.1 hly)
     ·exact((j1 x).1 hx).below (fun y hy hly=>by rw [List.mem_singleton] at hy;subst hy;exact hcl.2 hly)
   ·refine hx (fun y=>y∈e.to::(idsO M n r.lo++idsO M n r.hi)) (fun y hy _=>by rw [List.mem_singleton] at hy;subst hy;exact List.mem_cons_self) ?_
    intro id q hid hq
    rcases List.mem_cons.1 hid with rfl|hid
    ·rw [hl] at hq
     cases hq
     exact⟨fun hh=>List.mem_cons_of_mem _ (List.mem_append_left _ ((i1 _).2 (Reaches.root (by simp) hh))),fun hh=>List.mem_cons_of_mem _ (List.mem_append_right _ ((j1 _).2 (Reaches.root (by simp) hh)))⟩
    ·rcases List.mem_append.1 hid with hid|hid
     ·have hc:=Reaches.closed M.cs [r.lo.to] id q ((i1 id).1 hid) hq
      exact⟨fun hh=>List.mem_cons_of_mem _ (List.mem_append_left _ ((i1 _).2 (hc.1 hh))),fun hh=>List.mem_cons_of_mem _ (List.mem_append_left _ ((i1 _).2 (hc.2 hh)))⟩
     ·have hc:=Reaches.closed M.cs [r.hi.to] id q ((j1 id).1 hid) hq
      exact⟨fun hh=>List.mem_cons_of_mem _ (List.mem_append_right _ ((j1 _).2 (hc.1 hh))),fun hh=>List.mem_cons_of_mem _ (List.mem_append_right _ ((j1 _).2 (hc.2 hh)))⟩
   ·rcases List.mem_cons.1 hx with rfl|hx
    ·exact⟨r,hl,hf,t0⟩
    ·rcases List.mem_append.1 hx with hx|hx
     ·exact i2 x hx
     ·exact j2 x hx

theorem fold_once (xs:List (List UInt8)):∀ out:List (List UInt8),out.Nodup→(xs.foldl addOne out).Nodup∧∀ y,y∈xs.foldl addOne out↔y∈out∨y∈xs:=by
 induction xs with
 | nil=>intro out h;exact⟨h,fun y=>by simp⟩
 | cons x xs ih=>
  intro out h
  have hn:(addOne out x).Nodup∧∀ y,y∈addOne out x↔y∈out∨y=x:=by
   unfold addOne
   split
   ·rename_i hm
    exact⟨h,fun y=>⟨.inl,fun hh=>by rcases hh with hh|rfl;exact hh;exact hm⟩⟩
   ·rename_i hm
    refine⟨List.nodup_append.2 ⟨h,by simp,fun a ha b hb e=>?_⟩,fun y=>by simp⟩
    rw [List.mem_singleton] at hb
    subst hb
    subst e
    exact hm ha
  obtain⟨i1,i2⟩:=ih _ hn.1
  refine⟨i1,fun y=>?_⟩
  rw [List.foldl_cons,i2,hn.2,List.mem_cons]
  exact⟨fun hh=>by rcases hh with(hh|hh)|hh;exact .inl hh;exact .inr (.inl hh);exact .inr (.inr hh),fun hh=>by rcases hh with hh|hh|hh;exact .inl (.inl hh);exact .inl (.inr hh);exact .inr hh⟩

theorem nodup_len2:∀ {a b:List (List UInt8)},a.Nodup→(∀ x,x∈a→x∈b)→a.length≤b.length:=by
 intro a
 induction a with
 | nil=>intro b _ _;exact Nat.zero_le _
 | cons x a ih=>
  intro b hn hs
  have hx:x∈b:=hs x (List.mem_cons_self)
  have hn2:=List.nodup_cons.1 hn
  have h1:=ih (b:=b.erase x) hn2.2 (fun y hy=>by
   have hne:y≠x:=fun e=>hn2.1 (e ▸ hy)
   exact(List.mem_erase_of_ne hne).2 (hs y (List.mem_cons_of_mem _ hy)))
  have h2:=List.length_erase_of_mem hx
  have h3:0<b.length:=List.length_pos_of_mem hx
  rw [List.length_cons]
  omega

open Go.RowKit Go.Shelf

attribute [local go_sem] Oper.semAt_some

theorem _root_.Go.World.ownsMap.keepUpd {G:Nat→Prop}{H:Type}{P:Program}{k:TypeId}{R:Value→Option (DataW H×List MemPlace)}{w W:World}{b n:Nat}{D:DataW H}(h:w.ownsMap P k R b n D)(hu:Upd G w W)(hb:¬G b):W.ownsMap P k R b n D:=by
 obtain⟨es,cl,h1,h2⟩:=h
 exact⟨es,cl,(hu.block b (Array.getElem?_eq_some_iff.1 h1).1 hb).trans h1,h2⟩

theorem store_sweep {F:Nat→Prop}{w:World}{sb:Nat}{M:St}(h:StoreRep F w sb M)(a:Option Addr)(len cap:Nat)(es:List Edge)(hes:IsEdges w a len es)(hlen:len≤1048576) :
  Calls Tryz.prog 154 #[.pointer (some ⟨sb,0,none⟩),.slice a len cap] w fun e w'=>e=.returned (.int .i64 ((goneL M (es.map Edge.to)).length:Int))∧Upd F w w'∧StoreRep (Grow F w w') w' sb (sweepSt M (es.map Edge.to)):=by
 have HC:=Lib.hid (reached_calls h a len cap es hes hlen)
 have HR:=Lib.hid h
 have hsb:=h.lt _ h.own
 obtain⟨ab,ib,c1,c2,hAR,hfew⟩:∃ ab ib,w.cell? ⟨sb,1,none⟩=some (.pointer (some ⟨ab,0,none⟩))∧w.cell? ⟨sb,2,none⟩=some (.pointer (some ⟨ib,0,none⟩))∧Hid (∃ Fa,ArenaRep Fa w ab M.cs M.gone M.len M.room)∧M.cs.length≤1048576:=by
  obtain⟨⟨ab,ib,ts,Fa,Fi,q1,q2,_⟩,_⟩:=h
  exact⟨ab,ib,by rw [cell_of_row w sb 1 _ _ _ q1];rfl,by rw [cell_of_row w sb 2 _ _ _ q1];rfl,Lib.hid ⟨Fa,q2⟩,q2.few⟩
 obtain⟨i0,hi,hz0,hz1,hz2⟩:=info_parts info_u32
 clear h hes
 refine(callsIn_wide (n:=3)).1 ?_
 refine callsIn_of_wp_marks Tryz.func154 rfl trivial ?_ rfl
 simp only [Tryz.ntmps154,List.size_toArray,List.length_cons,List.length_nil,Nat.reduceAdd,Nat.reduceSub,Array.replicate_succ,Array.replicate_zero,List.push_toArray,List.append_toArray,List.nil_append,List.cons_append]
 gi_wp2_with fail
 refine⟨trivial,?_⟩
 refine(callsIn_wide.2 HC.out).mono ?_
 rintro e w1 ⟨b,S,rfl,hV,hown,hSfew,hb,hk1⟩
 have HV:=Lib.hid hV
 have HK1:=Lib.hid hk1
 have c1:=hk1.cell c1
 have c2:=hk1.cell c2
 have hs1:=hk1.size
 have hsb1:sb<w1.heap.size:=by omega
 clear hV hk1
 gi_wp2_with fail
 refine⟨trivial,?_⟩
 refine(callsIn_wide.2 (arena_ids ab _)).mono ?_
 rintro e w2 ⟨rfl,hbx,hk2⟩
 gi_wp2_with fail
 rename_i K2 HK2
 simp only [World.size_alloc] at hbx
 have zx:w1.heap.size+1+1<w2.heap.size:=by have:=lt_of_cell hbx;simpa using this
 have hkw:Keeps w w2:=((HK1.out.alloc _).alloc _).trans hk2
 have l5:w2.cell? ⟨w1.heap.size,0,none⟩=some (.map (some b)):=hk2.cell (by simp)
 have l6:w2.cell? ⟨w1.heap.size+1,0,none⟩=some (.slice none 0 0):=hk2.cell (by simp)
 have lf:w2.frozen? ⟨w1.heap.size+1,0,none⟩=false:=(Below.frozen (p:=⟨w1.heap.size+1,0,none⟩) hk2 (by simp)).trans (by simp [go_sem])
 have hown2:=((hown.alloc (.cells #[.map (some b)] 220)).alloc (.cells #[.slice none 0 0] 108)).kept hk2.none (by simp)
 have hbw:b<w1.heap.size:=by obtain⟨_,_,hb',_⟩:=hown;exact(Array.getElem?_eq_some_iff.1 hb').1
 have c1:=((c1 |> fun h=>(show Keeps w1 w2 from(((Keeps.refl w1).alloc _).alloc _).trans hk2).cell h))
 have c2:=((c2 |> fun h=>(show Keeps w1 w2 from(((Keeps.refl w1).alloc _).alloc _).trans hk2).cell h))
 clear hown
 refine wpIn_range (xs:=idsL M.cs) (c:=0) (St:=fun A=>Keeps w A∧A.cell? ⟨w1.heap.size+1+1,0,none⟩=some (.pointer (some ⟨ab,0,none⟩)))
  (gf:=257) (lb:=#[.pointer (some ⟨w1.heap.size+1+1,0,none⟩)]) rfl ids_enter
  ?iter
  (fun pre A=>(Keeps w A∧A.cell? ⟨w1.heap.size+1+1,0,none⟩=some (.pointer (some ⟨ab,0,none⟩)))∧A.cell? ⟨w1.heap.size,0,none⟩=some (.map (some b)) ∧
    A.ownsMap Tryz.prog 23 (plainElem (H:=Unit) Tryz.prog 3) b S.length (marksD S) ∧
    (∃ a cap,A.cell? ⟨w1.heap.size+1,0,none⟩=some (.slice a (pre.filter (fun x=>!decide (x∈S))).length cap)∧A.ownsRow (w2.heap.size+2) 23 1 (.slice a (pre.filter (fun x=>!decide (x∈S))).length cap) (pre.filter (fun x=>!decide (x∈S))).length ((pre.filter (fun x=>!decide (x∈S))).map (Value.int .u32)))∧A.frozen? ⟨w1.heap.size+1,0,none⟩=false)
  (fun _ _=>False) (fun p A hp=>hp.1) ?abide (fun _ _ _ h _=>h) ⟨⟨hkw,hbx⟩,l5,hown2,⟨none,0,l6,World.ownsRow_nil _ _ _ _⟩,lf⟩
  (fun x=>{ tmps:=#[.pointer (some ⟨sb,0,none⟩),.slice a len cap,undef,undef,.int .i64 0,.pointer (some ⟨w1.heap.size,0,none⟩),.pointer (some ⟨w1.heap.size+1,0,none⟩),.int .u32 x,undef,undef,undef,undef,.pointer (some ⟨sb,0,none⟩),.bool false,.pointer (some ⟨sb,0,none⟩),.slice a len cap,.map (some b),.pointer (some ⟨sb,0,none⟩),.pointer (some ⟨sb,0,none⟩),.pointer (some ⟨sb,1,none⟩),.pointer (some ⟨ab,0,none⟩),.func (.func 257) #[] #[.pointer (some ⟨w1.heap.size+1+1,0,none⟩)],.int .u32 x,undef,undef,undef,undef,undef,undef,undef,undef,undef,undef,undef,undef,undef,undef,undef,undef,undef,undef,undef,undef,undef,undef,undef,undef,undef,undef,undef,undef,undef,undef,undef,undef,undef,undef,undef,undef,undef,undef,undef],defers:=[] })
  ?assign ?body ?done ?stop
 case iter=>
  obtain⟨Fa,hA⟩:=hAR.out
  exact ids1_iter (fun A hA'=>⟨hA.keeps hA'.1,hA'.2⟩)
 case abide=>
  rintro p A A' ⟨⟨h1,h2⟩,h3,h4,⟨a,cap,h5,h6⟩,h7⟩ hu
  have hb:∀ k,k<w2.heap.size→¬(w2.heap.size≤k∧k<w2.heap.size+(0+2)):=fun k hk hh=>by omega
  refine⟨⟨h1.new hu (fun k hk=>by omega),hu.cellAt (hb _ (by omega)) h2⟩,hu.cellAt (hb _ (by omega)) h3,h4.keepUpd hu (hb _ (by omega)),⟨a,cap,hu.cellAt (hb _ (by omega)) h5,hu.owns (fun k hk hh=>?_) h6⟩,(World.frozen?_of_block (a:=⟨w1.heap.size+1,0,none⟩) (hu.block (w1.heap.size+1) (lt_of_cell h5) (hb (w1.heap.size+1) (by omega)))).trans h7⟩
  rcases h6.2 with⟨e0,_⟩|⟨g',cap',cur,e0,hbg,_⟩
  ·rw [e0] at hk;simp [Value.ownBlock] at hk
  ·rw [e0] at hk;simp [Value.ownBlock] at hk;omega
 case assign=>
  intro l' m x A K hK
  gi_wp2
  exact hK
 case body=>
  rintro l' m pre x A ⟨⟨h1,h2⟩,h3,h4,⟨va,vcap,h5,h6⟩,h7⟩ hpre hsz
  have hxm:x∈idsL M.cs:=hpre.subset (by simp)
  obtain⟨hx2,hxc⟩:2≤x∧x-2<(M.cs.length:Int):=by
   have:=idsL_mem.1 hxm
   cases hl:look M.cs x with
   | none=>exact absurd hl this
   | some r=>have:=look_some hl;omega
  have hwf:(Lit.int .u32 x).wf=true:=by simp [Lit.wf,show IntKind.u32.min=0 from rfl,show IntKind.u32.max=4294967295 from rfl];omega
  have hkey:=Maps.keyOf_int_mk Tryz.underlying23 hwf
  obtain⟨q,hq⟩:∃ q,q=pre.filter (fun x=>!decide (x∈S)):=⟨_,rfl⟩
  have hfil:(pre++[x]).filter (fun x=>!decide (x∈S))=q++(if x∈S then [] else [x]):=by
   rw [List.filter_append,← hq]
   by_cases hm:x∈S<;>simp [hm]
  have hql:q.length+1≤1048576:=by
   have e1:q.length≤pre.length:=by rw [hq];exact List.length_filter_le _ _
   have e2:=hpre.length_le
   have e3:(idsL M.cs).length≤M.cs.length:=by
    unfold idsL
    rw [idsFrom_len]
    exact List.length_filter_le _ _
   simp at e2
   omega
  rw [← hq] at h5 h6
  have HFIL:=Lib.hid hfil
  have HPRE:=Lib.hid hpre
  clear hfil hpre hq hxm
  have hlt:=lt_of_cell h5
  have hlt3:=lt_of_cell h3
  dsimp only at hlt hlt3
  have nr:∀ k,Value.ownBlock (.slice va q.length vcap)=some k→w2.heap.size+2≤k:=fun k hk=>by
   rcases h6.2 with⟨e0,_⟩|⟨g',cap',cur,e0,hbg,_⟩
   ·rw [e0] at hk;simp [Value.ownBlock] at hk
   ·rw [e0] at hk;simp [Value.ownBlock] at hk;omega
  have hp2:q.length+1≤maxLen:=by unfold maxLen;omega
  have hp3:(q.length+1)*4≤140737488355328:=by omega
  obtain⟨c,hrun,hat,-⟩:=h4.lookup_int (Maps.int_keyed Tryz.underlying23) Tryz.underlying220 Tryz.underlying3 (zero_int _) hkey
  have HM4:=Lib.hid h4
  clear h4
  by_cases hm:x∈S
  ·rw [marksD_in hm] at hat
   cases hat
   gi_wp2
   refine⟨fun k _ _=>rfl,Nat.le_refl _,⟨h1,h2⟩,h3,HM4.out,⟨va,vcap,?_,?_⟩,h7⟩
   ·rw [HFIL.out,if_pos hm,List.append_nil]
    exact h5
   ·rw [HFIL.out,if_pos hm,List.append_nil]
    exact h6
  ·rw [marksD_out hm] at hat
   cases hat
   have H6:=Lib.hid h6
   gi_wp2_with (first
    | (gi_at_builtin;refine wpListIn_append_own _ rfl _ _ 108 rfl (w2.heap.size+2) 23 i0 (.int .u32 0) 1 4 Tryz.underlying108 hi hz0 hz1 hz2 rfl (by decide) (.slice va q.length vcap) q.length (q.map (Value.int .u32)) rfl (H6.out.alloc _) ⟨A.heap.size,0,none⟩ 1 1 [.int .u32 x] rfl rfl (cell_one_new _ _ _) (by simp [Value.oneCell']) (by exact hp2) (by exact hp3) (by simp;omega) ?_;intro v' w3 hown3 hg3 _;obtain⟨g',cap',rfl⟩:=ownsRow_succ hown3;obtain⟨hu3,c9,f9⟩:=boxAfter hg3 nr (by omega) h5 h7)
    | fail)
   have hg'B:w2.heap.size+2≤g':=by
    rcases hown3.2 with⟨e0,_⟩|⟨g2,cap2,cur,e0,hbg,_⟩
    ·simp at e0
    ·simp at e0;omega
   have hu4:Upd (fun k=>Value.ownBlock (.slice va q.length vcap)=some k∨k=w1.heap.size+1) A (w3.setCell ⟨w1.heap.size+1,0,none⟩ (.slice (some ⟨g',0,none⟩) (q.length+1) cap')):=
    Upd.setCell (F:=fun k=>Value.ownBlock (.slice va q.length vcap)=some k∨k=w1.heap.size+1) (hu3.mono (fun k _ hk=>Or.inl hk)) (p:=⟨w1.heap.size+1,0,none⟩) (.inl (Or.inr rfl)) _
   have hu5:Upd (fun k=>k=w1.heap.size+1) w3 (w3.setCell ⟨w1.heap.size+1,0,none⟩ (.slice (some ⟨g',0,none⟩) (q.length+1) cap')):=
    Upd.setCell (F:=fun k=>k=w1.heap.size+1) (Upd.refl _ w3) (p:=⟨w1.heap.size+1,0,none⟩) (.inl rfl) _
   have hfar:∀ k,k<w2.heap.size+2→k≠w1.heap.size+1→¬(Value.ownBlock (.slice va q.length vcap)=some k∨k=w1.heap.size+1):=fun k q1 q2 hh=>by
    rcases hh with hh|hh
    ·have:=nr _ hh;omega
    ·exact q2 hh
   refine⟨fun k q1 q2=>hu4.block k (by omega) (hfar k (by omega) (by omega)),hu4.size,⟨h1.new hu4 (fun k hk=>?_),hu4.cellAt (hfar _ (by omega) (by omega)) h2⟩,hu4.cellAt (hfar _ (by omega) (by omega)) h3,HM4.out.keepUpd hu4 (hfar b (by omega) (by omega)),⟨some ⟨g',0,none⟩,cap',?_,?_⟩,?_⟩
   ·rcases hk with hk|hk
    ·have:=nr _ hk;omega
    ·omega
   ·rw [HFIL.out,if_neg hm,List.length_append]
    simp [go_sem,c9]
   ·have:=hu5.owns (fun k hk hh=>by simp [Value.ownBlock] at hk;omega) hown3
    rw [HFIL.out,if_neg hm,List.length_append,List.map_append]
    exact this
   ·simp [go_sem,f9]
 case done=>
  rintro A ⟨⟨h1,h2⟩,h3,h4,⟨va,vcap,h5,h6⟩,h7⟩ hK
  rw [goneS_eq HV.out] at h5 h6
  obtain⟨q,hq⟩:∃ q,q=goneL M (es.map Edge.to):=⟨_,rfl⟩
  rw [← hq] at h5 h6
  have hqlen:q.length≤1048576:=by
   have e1:q.length≤(idsL M.cs).length:=by rw [hq];exact List.length_filter_le _ _
   have e3:(idsL M.cs).length≤M.cs.length:=by
    unfold idsL
    rw [idsFrom_len]
    exact List.length_filter_le _ _
   omega
  obtain⟨ab',ib',hsw⟩:=(HR.out.keeps h1).sweep0 q
  have HSW:=Lib.hid hsw
  have HH1:=Lib.hid h1
  have HK:=Lib.hid hK
  have H6:=Lib.hid h6
  have HQ:=Lib.hid hq
  have hzA:=h1.size
  have hlt5:=lt_of_cell h5
  dsimp only at hlt5
  clear h1 h2 h3 h4 hsw hq h6 h7 hK hown2 l5 l6 lf c1 c2 hbx
  have hnF:∀ j,w.heap.size≤j→¬F j:=fun j hj hf=>by have:=HR.out.lt _ hf;omega
  have hrow:∀ j id,q[j]?=some id→∃ g,va=some ⟨g,0,none⟩∧w2.heap.size+2≤g∧A.cell? ⟨g,j,none⟩=some (.int .u32 id):=by
   intro j id hj
   have hj':=(List.getElem?_eq_some_iff.1 hj).1
   rcases H6.out.2 with⟨e0,hz⟩|⟨g2,cap2,cur,e0,hbg,_⟩
   ·omega
   ·cases e0
    refine⟨g2,rfl,hbg,?_⟩
    rw [H6.out.cellAt j (by omega)]
    simp [hj]
  have HROW:=Lib.hid hrow
  have HNF:=Lib.hid hnF
  have hgl:∀ x∈q,look M.cs x≠none∧2≤x∧x-2<(M.cs.length:Int):=fun x hx=>by
   rw [HQ.out] at hx
   exact⟨(goneL_mem.1 hx).1,goneL_two hx⟩
  have HGL:=Lib.hid hgl
  have hnd:q.Nodup:=by rw [HQ.out];exact goneL_nodup _ _
  have HND:=Lib.hid hnd
  clear hrow hnF hgl hnd
  refine HK2 _ _ (wpIn_wide.2 ?_)
  clear HK2
  go_wp2_with fail
  go_loopg [33] q.length (fun gk v wr=>∃ k:Nat,k+gk=q.length∧v=.int .i64 (k:Int)∧SwRep F A wr sb ab' ib' M q k k)
  case atStart=>exact⟨0,by omega,rfl,HSW.out⟩
  case round=>
   obtain⟨k,hk,rfl,hS⟩:=hrel
   have HS:=Lib.hid hS
   have hupd:=Lib.hid hS.upd
   have hzr:=hS.upd.size
   clear hS
   by_cases hlt:k<q.length
   ·obtain⟨id,hid⟩:∃ id,q[k]?=some id:=⟨_,List.getElem?_eq_getElem hlt⟩
    obtain⟨g,rfl,hgB,hgc⟩:=HROW.out k id hid
    have rc:wr.cell? ⟨g,k,none⟩=some (.int .u32 id):=hupd.out.cellAt (HNF.out g (by omega)) hgc
    obtain⟨hl0,hid2,hidc⟩:=HGL.out id (List.mem_of_getElem? hid)
    obtain⟨r,hr⟩:∃ r,look M.cs id=some r:=by
     cases hl:look M.cs id with
     | none=>exact absurd hl hl0
     | some r=>exact⟨r,rfl⟩
    have htwo:∀ x∈q.take k,2≤x:=fun x hx=>(HGL.out x (List.mem_of_mem_take hx)).2.1
    have hnot:id∉q.take k:=by
     intro hm
     obtain⟨j,hj⟩:=List.getElem?_of_mem hm
     have hjk:j<k:=by
      have:=(List.getElem?_eq_some_iff.1 hj).1
      rw [List.length_take] at this
      omega
     rw [List.getElem?_take_of_lt hjk] at hj
     have h1:=List.getElem?_eq_some_iff.1 hj
     have h2:=List.getElem?_eq_some_iff.1 hid
     have:=(List.getElem_inj (h₀:=h1.1) (h₁:=h2.1) HND.out).1 (by rw [h1.2,h2.2])
     omega
    have hlk:look (dropCs M.cs (q.take k)) id=some r:=by rw [look_drop htwo,if_neg hnot,hr]
    have honce:∀ r' i j,look (dropCs M.cs (q.take k)) i=some r'→look (dropCs M.cs (q.take k)) j=some r'→i=j:=by
     intro r' i j h1 h2
     rw [look_drop htwo] at h1 h2
     split at h1
     ·cases h1
     ·split at h2
      ·cases h2
      ·exact HR.out.once r' i j h1 h2
    have hrok:r.ok:=HR.out.fit hr
    have hlen1:1≤M.len-k:=by
     obtain⟨ts,Fa,Fi,q1,q2,q3,q4,_⟩:=HS.out.rep
     obtain⟨i,hi'⟩:=(q4 r id).2 hlk
     have:=occ_set_none hi'
     omega
    have HG:=Lib.hid (fun(W:World) (hW:Keeps wr W)=>(HS.out.keeps hW).get (by omega) hlk)
    have HI:=Lib.hid (fun(W:World) (hW:Keeps wr W)=>(HS.out.keeps hW).idrop hid hid2 hrok hlk honce)
    have d1:wr.cell? ⟨sb,1,none⟩=some (.pointer (some ⟨ab',0,none⟩)):=by rw [cell_of_row wr sb 1 _ _ _ HS.out.head];rfl
    have d2:wr.cell? ⟨sb,2,none⟩=some (.pointer (some ⟨ib',0,none⟩)):=by rw [cell_of_row wr sb 2 _ _ _ HS.out.head];rfl
    have HLK:=Lib.hid hlk
    have HID:=Lib.hid hid
    clear hlk hid honce htwo hnot hr hl0
    have hsr:sb<wr.heap.size:=lt_of_cell d1
    go_wp2_with fail
    refine(HG.out _ (by(exact kp))).mono ?_
    rintro e w3 ⟨rfl,hk3⟩
    have e1:=hk3.cell d1
    have e2:=hk3.cell d2
    have hz3:=hk3.size
    have hs3:sb<w3.heap.size:=by omega
    go_wp2_with fail
    refine wp_region_head 6 #[true,true,true,true,true,true,false] (by kernel_rfl) (by kernel_rfl) ?_
    simp only [List.take_succ_cons,List.take_zero,List.drop_succ_cons,List.drop_zero]
    repeat still_step
    refine wpStill_nil ?_
    refine wpAny_ready (fuel:=0) (rs:=[6]) (by kernel_rfl) (by decide) (AllReady.cons rfl (fun K hK=>?_) AllReady.nil)
    go_simp
    refine(HI.out _ (by(exact kp))).mono ?_
    rintro e w4 ⟨rfl,hS4⟩
    refine hK _ _ ?_
    clear hK K
    refine wpAny_done (by kernel_rfl) ?_ _
    have HA:=Lib.hid (fun(W:World) (hW:Keeps w4 W)=>(hS4.keeps hW).adrop HID.out HLK.out hlen1)
    have d4:w4.cell? ⟨sb,1,none⟩=some (.pointer (some ⟨ab',0,none⟩)):=by rw [cell_of_row w4 sb 1 _ _ _ hS4.head];rfl
    have hs4:sb<w4.heap.size:=lt_of_cell d4
    clear hS4
    go_wp2_with fail
    refine(HA.out _ (by(exact kp))).mono ?_
    rintro e w5 ⟨rfl,hS5⟩
    have HS5:=Lib.hid hS5
    clear hS5
    go_wp2
    go_roundg (gk-1)
    case rel=>exact⟨k+1,by omega,by simp,HS5.out⟩
    case measure=>omega
   ·have hbx:wr.cell? ⟨w1.heap.size+1,0,none⟩=some (.slice va q.length vcap):=hupd.out.cellAt (HNF.out _ (by omega)) h5
    have hkq:k=q.length:=by omega
    subst hkq
    have hKr:wr.heap[w2.heap.size]?=some (.deferred (some [])):=(hupd.out.block _ (Array.getElem?_eq_some_iff.1 HK.out).1 (HNF.out _ (by omega))).trans HK.out
    have hdlt:=(Array.getElem?_eq_some_iff.1 HK.out).1
    go_wp2
    refine⟨by simp,.inl ⟨_,_,rfl,run_takeDeferred hKr,?_⟩⟩
    have hus:Upd (fun k=>k=w2.heap.size) wr (wr.putObj w2.heap.size (.deferred none)):=Upd.putObj (F:=fun k=>k=w2.heap.size) (Upd.refl _ wr) (.inl rfl) _
    have hS:=HS.out
    rw [HQ.out] at hS
    refine⟨_,results_tmp rfl _ _ _,by rw [HQ.out];rfl,hS.done HR.out.wf HH1.out HR.out.lt (by omega) hdlt hus⟩
 case stop=>exact fun _ _ _ h _=>h.elim

end Go.Proofs.YtpgcbmbnognieaaGreat
