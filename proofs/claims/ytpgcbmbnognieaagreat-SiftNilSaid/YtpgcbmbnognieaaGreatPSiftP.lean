/-
  A diagram's text behind a sweep, and behind nodes that came in.
-/
import Derived.Test.YtpgcbmbnognieaaGreatPSSweep
import Derived.Test.YtpgcbmbnognieaaGreatPSwapU
import Derived.Test.YtpgcbmbnognieaaGreatPTwoA
namespace Go.Proofs.YtpgcbmbnognieaaGreat
set_option maxRecDepth 1000000
set_option maxHeartbeats 8000000
set_option linter.unusedSimpArgs false
set_option linter.unusedVariables false
open Go.RowKit

theorem unf_agree {f:Int}{M M':St}(hM:Fine f M){roots:List Int}(hR:∀ id,Reaches M.cs roots id→look M'.cs id=look M.cs id) :
  ∀ (n:Nat) (e:Edge) (l:Int),At f M e l n→(look M.cs e.to≠none→Reaches M.cs roots e.to)→unfL f M' n e=unfL f M n e:=by
 intro n
 induction n with
 | zero=>intro e l h;obtain⟨m,hm⟩:=h.pos hM;omega
 | succ n ih=>
  intro e l h hr
  rcases h.cases hM with⟨h0,h2⟩|⟨r,hl,_,_,_,_,_,_,_,_,hlo,hhi⟩
  ·rw [unfL_leaf h0 h2,unfL_leaf h0 h2]
  ·have hre:=hr (by rw [hl];simp)
   have hl':look M'.cs e.to=some r:=by rw [hR _ hre,hl]
   have hc:=Reaches.closed M.cs roots e.to r hre hl
   rw [unfL_node hl,unfL_node hl']
   unfold nodeL
   rw [ih _ _ hlo hc.1,ih _ _ hhi hc.2]

theorem unfS_of {f:Int}{M M':St}{n:Nat}{e:Edge}(h:unfL f M' n e=unfL f M n e):unfS f M' n e=unfS f M n e:=by
 apply ByteArray.ext
 exact Array.toList_inj.1 h

theorem StoreRep.fine {F:Nat→Prop}{w:World}{sb:Nat}{M:St}(h:StoreRep F w sb M)(f:Int)(h9:M.n≤9):Fine f M:=⟨h.wf,fun _ _ hl=>⟨(h.fit hl).lo.2.1,(h.fit hl).hi.2.1⟩,h9⟩

def termK (f:Int)(k:Nat)(ts:List Bool)(l:Int):ByteArray:=
 if f=1 then termB k ts l else if f=2 then termZ k ts l else if f=3 then termC (k+1) k ts l else if f=4 then termQ (k+1) k ts l else termT (k+1) k ts l

theorem form_cases {f:Int}(hf:1≤f∧f≤5):f=1∨f=2∨f=3∨f=4∨f=5:=by omega

theorem twoK {f:Int}{M:St}(hw:M.wf)(hf:1≤f∧f≤5){k:Nat}{ts:List Bool}{l:Int}{e:Edge}(h:IsT f M k ts l e)(hl:l+(k:Nat)=M.n)(h0:0≤l)(m:Nat)(hm:k≤m):unfS f M (m+1) e=termK f k ts l:=by
 rcases form_cases hf with rfl|rfl|rfl|rfl|rfl
 ·exact two1 hw k ts l e h m hm
 ·exact two2 k ts l e h m hm
 ·exact two3 hw k ts l e h hl m k hm (Nat.le_refl _)
 ·exact two4 hw k ts l e h hl m k hm (Nat.le_refl _)
 ·exact two5 hw k ts l e h hl h0 m k hm (Nat.le_refl _)

def addText (out:List ByteArray)(x:ByteArray):List ByteArray:=if out.any (fun s=>s.toList==x.toList) then out else out++[x]

theorem bytes_ext {x y:ByteArray}(h:x.data.toList=y.data.toList):x=y:=by
 cases x;cases y
 exact congrArg ByteArray.mk (Array.toList_inj.1 h)

theorem any_mem (out:List ByteArray)(x:ByteArray):out.any (fun s=>s.toList==x.toList)=true↔x∈out:=by
 rw [List.any_eq_true]
 constructor
 ·rintro⟨s,hs,he⟩
  have h1:=eq_of_beq he
  rw [ByteArray.toList_eq,ByteArray.toList_eq] at h1
  rw [← bytes_ext h1]
  exact hs
 ·intro hx
  exact⟨x,hx,beq_self_eq_true _⟩

def metF (k:Nat)(f:Int):List (Int×List Bool)→List ByteArray→List ByteArray
 | [],met=>met
 | r::rs,met=>metF k f rs (if r.1=f then(partsTo (termK f k r.2 0) (termK f k r.2 0).size).foldl addText met else met)

def sizeTo (k:Nat)(rs:List (Int×List Bool)):Nat→Nat
 | 0=>0
 | f+1=>sizeTo k rs f+(metF k ((f+1:Nat):Int) rs []).length

def sizeR (k:Nat)(rs:List (Int×List Bool)):Nat:=sizeTo k rs 5

theorem addText_mem (out:List ByteArray)(x y:ByteArray):y∈addText out x↔y∈out∨y=x:=by
 unfold addText
 split
 ·rename_i h
  rw [any_mem] at h
  exact⟨.inl,fun hh=>by rcases hh with hh|rfl;exact hh;exact h⟩
 ·simp

theorem addText_once {out:List ByteArray}{x:ByteArray}(h:out.Nodup):(addText out x).Nodup:=by
 unfold addText
 split
 ·exact h
 ·rename_i hm
  rw [any_mem] at hm
  refine List.nodup_append.2 ⟨h,by simp,fun a ha b hb e=>?_⟩
  rw [List.mem_singleton] at hb
  subst hb
  subst e
  exact hm ha

theorem addTexts (xs:List ByteArray):∀ out:List ByteArray,out.Nodup→(xs.foldl addText out).Nodup∧∀ y,y∈xs.foldl addText out↔y∈out∨y∈xs:=by
 induction xs with
 | nil=>intro out h;exact⟨h,fun y=>by simp⟩
 | cons x xs ih=>
  intro out h
  obtain⟨i1,i2⟩:=ih _ (addText_once (x:=x) h)
  refine⟨i1,fun y=>?_⟩
  rw [List.foldl_cons,i2,addText_mem,List.mem_cons]
  exact⟨fun hh=>by rcases hh with(hh|hh)|hh;exact .inl hh;exact .inr (.inl hh);exact .inr (.inr hh),fun hh=>by rcases hh with hh|hh|hh;exact .inl (.inl hh);exact .inl (.inr hh);exact .inr hh⟩

theorem metF_spec (k:Nat)(f:Int):∀ (rs:List (Int×List Bool)) (met:List ByteArray),met.Nodup→(metF k f rs met).Nodup∧∀ y,y∈metF k f rs met↔y∈met∨∃ r∈rs,r.1=f∧y∈partsTo (termK f k r.2 0) (termK f k r.2 0).size:=by
 intro rs
 induction rs with
 | nil=>intro met h;exact⟨h,fun y=>by simp [metF]⟩
 | cons r rs ih=>
  intro met h
  unfold metF
  by_cases hf:r.1=f
  ·rw [if_pos hf]
   obtain⟨a1,a2⟩:=addTexts (partsTo (termK f k r.2 0) (termK f k r.2 0).size) met h
   obtain⟨i1,i2⟩:=ih _ a1
   refine⟨i1,fun y=>?_⟩
   rw [i2,a2]
   constructor
   ·rintro((hh|hh)|⟨q,hq,h1,h2⟩)
    ·exact .inl hh
    ·exact .inr ⟨r,by simp,hf,hh⟩
    ·exact .inr ⟨q,by simp [hq],h1,h2⟩
   ·rintro(hh|⟨q,hq,h1,h2⟩)
    ·exact .inl (.inl hh)
    ·rcases List.mem_cons.1 hq with rfl|hq
     ·exact .inl (.inr h2)
     ·exact .inr ⟨q,hq,h1,h2⟩
  ·rw [if_neg hf]
   obtain⟨i1,i2⟩:=ih _ h
   refine⟨i1,fun y=>?_⟩
   rw [i2]
   constructor
   ·rintro(hh|⟨q,hq,h1,h2⟩)
    ·exact .inl hh
    ·exact .inr ⟨q,by simp [hq],h1,h2⟩
   ·rintro(hh|⟨q,hq,h1,h2⟩)
    ·exact .inl hh
    ·rcases List.mem_cons.1 hq with rfl|hq
     ·exact absurd h1 hf
     ·exact .inr ⟨q,hq,h1,h2⟩

theorem nodup_mapG {α β:Type}{g:α→β}:∀ {a:List α},a.Nodup→(∀ x y,x∈a→y∈a→g x=g y→x=y)→(a.map g).Nodup:=by
 intro a
 induction a with
 | nil=>intro _ _;exact List.nodup_nil
 | cons x a ih=>
  intro hn hinj
  have hn2:=List.nodup_cons.1 hn
  refine List.nodup_cons.2 ⟨fun hm=>?_,ih hn2.2 (fun y z hy hz=>hinj y z (List.mem_cons_of_mem _ hy) (List.mem_cons_of_mem _ hz))⟩
  obtain⟨y,hy,he⟩:=List.mem_map.1 hm
  have:=hinj y x (List.mem_cons_of_mem _ hy) List.mem_cons_self he
  subst this
  exact hn2.1 hy

theorem nodup_lenI:∀ {a b:List Int},a.Nodup→(∀ x,x∈a→x∈b)→a.length≤b.length:=by
 intro a
 induction a with
 | nil=>intro b _ _;exact Nat.zero_le _
 | cons x a ih=>
  intro b hn hs
  have hx:x∈b:=hs x (List.mem_cons_self)
  have hn2:=List.nodup_cons.1 hn
  have h1:=ih (b:=b.erase x) hn2.2 (fun y hy=>by
   have hne:y≠x:=fun e=>hn2.1 (e ▸ hy)
   exact(List.mem_erase_of_ne hne).2 (hs y (List.mem_cons_of_mem _ hy)))
  have h2:=List.length_erase_of_mem hx
  have h3:0<b.length:=List.length_pos_of_mem hx
  rw [List.length_cons]
  omega

theorem reaches_one {cs:List (Option Rec)}{roots:List Int}{id:Int}:Reaches cs roots id↔∃ a∈roots,Reaches cs [a] id:=by
 constructor
 ·intro h
  refine h (fun x=>∃ a∈roots,Reaches cs [a] x) (fun a ha hl=>⟨a,ha,Reaches.root (by simp) hl⟩) (fun x r hx hl=>?_)
  obtain⟨a,ha,hr⟩:=hx
  have hc:=Reaches.closed cs [a] x r hr hl
  exact⟨fun h1=>⟨a,ha,hc.1 h1⟩,fun h1=>⟨a,ha,hc.2 h1⟩⟩
 ·rintro⟨a,ha,hr⟩
  exact hr.mono (fun x hx=>by rw [List.mem_singleton] at hx;rw [hx];exact ha)

theorem five_kinds (g:Int→Int):∀ A:List Int,(∀ x∈A,1≤g x∧g x≤5) →
  A.length=(A.filter (fun x=>g x=1)).length+(A.filter (fun x=>g x=2)).length+(A.filter (fun x=>g x=3)).length+(A.filter (fun x=>g x=4)).length+(A.filter (fun x=>g x=5)).length:=by
 intro A
 induction A with
 | nil=>intro _;rfl
 | cons x A ih=>
  intro h
  have h1:=h x (by simp)
  have h2:=ih (fun y hy=>h y (by simp [hy]))
  have h3:g x=1∨g x=2∨g x=3∨g x=4∨g x=5:=by omega
  rw [List.length_cons,h2]
  rcases h3 with e|e|e|e|e<;>simp [List.filter_cons,e]<;>omega

def formAt (M:St)(id:Int):Int:=match look M.cs id with|some r=>r.form|none=>0

structure RootAt (M:St)(k:Nat)(r:Int×List Bool)(e:Edge):Prop where
 form:1≤r.1∧r.1≤5
 at_:At r.1 M e 0 (k+1)
 text:unfS r.1 M (k+1) e=termK r.1 k r.2 0

def RootsAt (M:St)(k:Nat)(rs:List (Int×List Bool))(es:List Edge):Prop:=es.length=rs.length∧∀ (i:Nat) (r:Int×List Bool) (e:Edge),rs[i]?=some r→es[i]?=some e→RootAt M k r e

theorem root_texts {M:St}{k:Nat}{r:Int×List Bool}{e:Edge}(hM:Fine r.1 M)(h:RootAt M k r e)(y:List UInt8):y∈(partsTo (termK r.1 k r.2 0) (termK r.1 k r.2 0).size).map (fun s=>s.data.toList)↔∃ id,Reaches M.cs [e.to] id∧textI r.1 M id=y:=by
 have h1:=partsTo_ps (termK r.1 k r.2 0) (termK r.1 k r.2 0).data.toList 0 rfl (by simp)
 rw [show(partsTo (termK r.1 k r.2 0) 0).map (fun s=>s.data.toList)=[] from rfl] at h1
 rw [← h1,← h.text]
 have hp:=ps_text hM (k+1) e 0 [] [] h.at_
 rw [List.append_nil] at hp
 rw [show(unfS r.1 M (k+1) e).data.toList=unfL r.1 M (k+1) e from rfl,hp]
 show y∈(((idsO M (k+1) e).map (textI r.1 M)).foldl addOne [])↔_
 rw [(fold_once _ [] List.nodup_nil).2 y]
 simp only [List.not_mem_nil,false_or,List.mem_map]
 obtain⟨i1,-⟩:=idsO_mem hM (k+1) e 0 h.at_
 exact⟨fun⟨x,hx,he⟩=>⟨x,(i1 x).1 hx,he⟩,fun⟨x,hx,he⟩=>⟨x,(i1 x).2 hx,he⟩⟩

theorem root_forms {M:St}{k:Nat}{r:Int×List Bool}{e:Edge}(hM:Fine r.1 M)(h:RootAt M k r e){id:Int}(hr:Reaches M.cs [e.to] id):∃ q,look M.cs id=some q∧q.form=r.1∧0≤q.top:=by
 obtain⟨i1,i2⟩:=idsO_mem hM (k+1) e 0 h.at_
 exact i2 id ((i1 id).2 hr)

theorem size_reach {M:St}(hM:∀ f,Fine f M){k:Nat}{rs:List (Int×List Bool)}{es:List Edge}(h:RootsAt M k rs es):(reachL M.cs (es.map Edge.to)).length=sizeR k rs:=by
 obtain⟨hl,h⟩:=h
 have any:∀ id,id∈reachL M.cs (es.map Edge.to)↔∃ (i:Nat) (r:Int×List Bool) (e:Edge),rs[i]?=some r∧es[i]?=some e∧Reaches M.cs [e.to] id:=fun id=>by
  rw [mem_reachL,reaches_one]
  constructor
  ·rintro⟨a,ha,hr⟩
   obtain⟨e,he,rfl⟩:=List.mem_map.1 ha
   obtain⟨i,hi⟩:=List.mem_iff_getElem?.1 he
   have hil:=(List.getElem?_eq_some_iff.1 hi).1
   exact⟨i,rs[i]'(by omega),e,List.getElem?_eq_getElem (by omega),hi,hr⟩
  ·rintro⟨i,r,e,h1,h2,hr⟩
   exact⟨e.to,List.mem_map.2 ⟨e,List.mem_of_getElem? h2,rfl⟩,hr⟩
 have form:∀ id∈reachL M.cs (es.map Edge.to),∃ q,look M.cs id=some q∧(1≤q.form∧q.form≤5)∧0≤q.top:=fun id hid=>by
  obtain⟨i,r,e,h1,h2,hr⟩:=(any id).1 hid
  have ho:=h i r e h1 h2
  obtain⟨q,g1,g2,g3⟩:=root_forms (hM _) ho hr
  exact⟨q,g1,by rw [g2];exact ho.form,g3⟩
 have one:∀ f:Int,((reachL M.cs (es.map Edge.to)).filter (fun x=>formAt M x=f)).length=(metF k f rs []).length:=fun f=>by
  obtain⟨m1,m2⟩:=metF_spec k f rs [] List.nodup_nil
  have n1:(((reachL M.cs (es.map Edge.to)).filter (fun x=>formAt M x=f)).map (textI f M)).Nodup:=by
   refine nodup_mapG ((rising_nodup (reachL_rising M.cs (es.map Edge.to))).filter _) (fun x y hx hy hxy=>?_)
   obtain⟨hx1,hx2⟩:=List.mem_filter.1 hx
   obtain⟨hy1,hy2⟩:=List.mem_filter.1 hy
   obtain⟨q,g1,-,g3⟩:=form x hx1
   obtain⟨s,j1,-,j3⟩:=form y hy1
   simp only [formAt,g1,decide_eq_true_eq] at hx2
   simp only [formAt,j1,decide_eq_true_eq] at hy2
   exact textI_inj (hM f) g1 j1 hx2 hy2 g3 j3 hxy
  have n2:((metF k f rs []).map (fun s=>s.data.toList)).Nodup:=nodup_mapG m1 (fun x y _ _ e=>bytes_ext e)
  have mem:∀ y,y∈((reachL M.cs (es.map Edge.to)).filter (fun x=>formAt M x=f)).map (textI f M)↔y∈(metF k f rs []).map (fun s=>s.data.toList):=fun y=>by
   rw [List.mem_map,List.mem_map]
   constructor
   ·rintro⟨id,hid,rfl⟩
    obtain⟨g1,g2⟩:=List.mem_filter.1 hid
    obtain⟨i,r,e,h1,h2,hr⟩:=(any id).1 g1
    have ho:=h i r e h1 h2
    obtain⟨q,q1,q2,q3⟩:=root_forms (hM _) ho hr
    simp only [formAt,q1,decide_eq_true_eq] at g2
    have hf:r.1=f:=q2.symm.trans g2
    have ht:=(root_texts (hM _) ho (textI f M id)).2 ⟨id,hr,by rw [hf]⟩
    obtain⟨s,s1,s2⟩:=List.mem_map.1 ht
    rw [hf] at s1
    exact⟨s,(m2 s).2 (.inr ⟨r,List.mem_of_getElem? h1,hf,s1⟩),s2⟩
   ·rintro⟨s,s1,rfl⟩
    rcases(m2 s).1 s1 with hh|⟨r,hr,hf,hs⟩
    ·simp at hh
    ·obtain⟨i,hi⟩:=List.mem_iff_getElem?.1 hr
     have hil:=(List.getElem?_eq_some_iff.1 hi).1
     have he:es[i]?=some (es[i]'(by omega)):=List.getElem?_eq_getElem (by omega)
     have ho:=h i r _ hi he
     rw [← hf] at hs
     obtain⟨id,t1,t2⟩:=(root_texts (hM _) ho s.data.toList).1 (List.mem_map.2 ⟨s,hs,rfl⟩)
     obtain⟨q,q1,q2,q3⟩:=root_forms (hM _) ho t1
     refine⟨id,List.mem_filter.2 ⟨(any id).2 ⟨i,r,_,hi,he,t1⟩,?_⟩,by rw [← hf];exact t2⟩
     simp only [formAt,q1,decide_eq_true_eq]
     exact q2.trans hf
  have e1:=nodup_len2 n1 (fun y hy=>(mem y).1 hy)
  have e2:=nodup_len2 n2 (fun y hy=>(mem y).2 hy)
  rw [List.length_map,List.length_map] at e1 e2
  omega
 rw [five_kinds (formAt M) _ (fun x hx=>by
  obtain⟨q,g1,g2,-⟩:=form x hx
  simp only [formAt,g1]
  exact g2),one 1,one 2,one 3,one 4,one 5]
 unfold sizeR
 simp only [sizeTo]
 show _=0+(metF k 1 rs []).length+(metF k 2 rs []).length+(metF k 3 rs []).length+(metF k 4 rs []).length+(metF k 5 rs []).length
 omega

theorem idsO_len (M:St):∀ (n:Nat) (e:Edge),(idsO M n e).length≤2 ^ n-1:=by
 intro n
 induction n with
 | zero=>intro e;simp [idsO]
 | succ n ih=>
  intro e
  have hp:1≤2 ^ n:=Nat.pow_pos (by decide)
  have e2:2 ^ (n+1)=2 ^ n+2 ^ n:=by rw [Nat.pow_succ];omega
  unfold idsO
  split
  ·simp
  ·have h1:=ih (grec (look M.cs e.to)).lo
   have h2:=ih (grec (look M.cs e.to)).hi
   simp only [List.length_append,List.length_cons]
   omega

theorem reach_few {M:St}(hM:∀ f,Fine f M){k:Nat}{rs:List (Int×List Bool)}{es:List Edge}(h:RootsAt M k rs es):(reachL M.cs (es.map Edge.to)).length≤es.length*(2 ^ (k+1)-1):=by
 have hsub:∀ x,x∈reachL M.cs (es.map Edge.to)→x∈es.flatMap (idsO M (k+1)):=fun x hx=>by
  rw [mem_reachL,reaches_one] at hx
  obtain⟨a,ha,hr⟩:=hx
  obtain⟨e,he,rfl⟩:=List.mem_map.1 ha
  obtain⟨i,hi⟩:=List.mem_iff_getElem?.1 he
  have hil:=(List.getElem?_eq_some_iff.1 hi).1
  have ho:=h.2 i (rs[i]'(by have:=h.1;omega)) e (List.getElem?_eq_getElem (by have:=h.1;omega)) hi
  exact List.mem_flatMap.2 ⟨e,he,((idsO_mem (hM _) (k+1) e 0 ho.at_).1 x).2 hr⟩
 have h1:=nodup_lenI (rising_nodup (reachL_rising M.cs (es.map Edge.to))) hsub
 have h2:∀ l:List Edge,(l.flatMap (idsO M (k+1))).length≤l.length*(2 ^ (k+1)-1):=by
  intro l
  induction l with
  | nil=>simp
  | cons e l ih=>
   have:=idsO_len M (k+1) e
   rw [List.flatMap_cons,List.length_append,List.length_cons,Nat.add_mul]
   omega
 exact Nat.le_trans h1 (h2 es)

open Go.ChangeShapes Go.WideShapes Go.ChangeAt Go.RowKit

def IsRootRow (w:World)(a:Option Addr)(len:Nat)(rs:List (Int×Edge)):Prop:=rs.length=len∧IsRoots w a rs

instance:Inhabited (Int×Edge):=⟨(0,Edge.zero)⟩

def rootCs (r:Int×Edge):List Value:=[.int .u8 r.1,.int .u8 r.2.tag,.int .u32 r.2.to]

theorem info_root:(Tryz.prog.info? 80).map (fun i=>(i.zero,i.size,i.bytes))=some (some (.agg #[.int .u8 0,.int .u8 0,.int .u32 0]),3,12):=by kernel_rfl

theorem owns_from {w:World}{base:Nat}{e:TypeId}{size:Nat}{v:Value}{n:Nat}{xs:List Value}(h:w.ownsRow base e size v n xs){k:Nat}(hk:v.ownBlock=some k):base≤k:=by
 rcases h.2 with⟨e0,_⟩|⟨g',cap',cur,e0,hbg,_⟩
 ·rw [e0] at hk;simp [Value.ownBlock] at hk
 ·rw [e0] at hk;simp [Value.ownBlock] at hk;omega

theorem kRight_of {M:St}{f:Int}{e:Edge}{l:Int}(hf:1≤f∧f≤5)(hl:M.leads f e l=true)(hr:rightK M f e l):kRight M f e l=true:=by
 have hff:f=1∨f=2∨f=3∨f=4∨f=5:=by omega
 rcases hff with rfl|rfl|rfl|rfl|rfl
 ·exact hl
 ·exact hl
 ·exact hr (.inl rfl)
 ·exact hr (.inr (.inl rfl))
 ·exact hr (.inr (.inr rfl))

theorem dnN_inj {ps:List Int}(hp:permB ps=true){X Y:Nat}(hX:X<2 ^ ps.length)(hY:Y<2 ^ ps.length)(h:dnN X ps=dnN Y ps):X=Y:=by
 have key:∀ (vs:List Int),dnN X vs=dnN Y vs→∀ v∈vs,bitB (X:Int) v=bitB (Y:Int) v:=by
  intro vs
  induction vs with
  | nil=>intro _ v hv;cases hv
  | cons u vs ih=>
   intro hh v hv
   have h1:=dnN_lt X vs
   have h2:=dnN_lt Y vs
   change vb X u*2 ^ vs.length+dnN X vs=vb Y u*2 ^ vs.length+dnN Y vs at hh
   have b1:=vb_le X u
   have b2:=vb_le Y u
   have c1:vb X u=0∨vb X u=1:=by omega
   have c2:vb Y u=0∨vb Y u=1:=by omega
   have e:vb X u=vb Y u:=by
    rcases c1 with c1|c1<;>rcases c2 with c2|c2<;>rw [c1,c2] at hh ⊢<;>omega
   rw [e] at hh
   rcases List.mem_cons.1 hv with rfl|hv
   ·unfold vb at e
    cases hx:bitB (X:Int) v<;>cases hy:bitB (Y:Int) v<;>rw [hx,hy] at e<;>first|rfl|(exfalso;revert e;decide)
   ·exact ih (by omega) v hv
 apply Nat.eq_of_testBit_eq
 intro j
 by_cases hj:j<ps.length
 ·have hm:(j:Int)∈ps:=(permB_perm.1 hp).2.symm.subset (mem_numsI.2 ⟨by omega,by omega⟩)
  have:=key ps h _ hm
  rwa [bitB_testBit,bitB_testBit] at this
 ·rw [Nat.testBit_lt_two_pow (Nat.lt_of_lt_of_le hX (Nat.pow_le_pow_right (by decide) (by omega))),Nat.testBit_lt_two_pow (Nat.lt_of_lt_of_le hY (Nat.pow_le_pow_right (by decide) (by omega)))]

theorem dnN_onto {ps:List Int}(hp:permB ps=true){y:Nat}(hy:y<2 ^ ps.length):∃ X,X<2 ^ ps.length∧dnN X ps=y:=by
 have hnd:((List.range (2 ^ ps.length)).map (fun X=>(dnN X ps:Int))).Nodup:=by
  rw [List.nodup_iff_pairwise_ne,List.pairwise_map]
  refine(List.nodup_iff_pairwise_ne.1 List.nodup_range).imp_of_mem ?_
  intro a b ha hb hne he
  rw [List.mem_range] at ha hb
  exact hne (dnN_inj hp ha hb (by omega))
 have hsub:∀ x∈(List.range (2 ^ ps.length)).map (fun X=>(dnN X ps:Int)),x∈numsI (2 ^ ps.length):=fun x hx=>by
  obtain⟨X,_,rfl⟩:=List.mem_map.1 hx
  have:=dnN_lt X ps
  exact mem_numsI.2 ⟨by omega,by omega⟩
 have hperm:=perm_of_sub _ (numsI (2 ^ ps.length)) hnd hsub (by rw [numsI_len,List.length_map,List.length_range];exact Nat.le_refl _)
 have hm:(y:Int)∈(List.range (2 ^ ps.length)).map (fun X=>(dnN X ps:Int)):=hperm.subset (mem_numsI.2 ⟨by omega,by omega⟩)
 obtain⟨X,hX,he⟩:=List.mem_map.1 hm
 exact⟨X,List.mem_range.1 hX,by omega⟩

theorem unf_ext {f:Int}{M M':St}(hE:Ext M M')(hF:Fine f M){n:Nat}{e:Edge}{l:Int}(h:At f M e l n):unfS f M' n e=unfS f M n e:=
 unfS_of (unf_agree hF (roots:=[e.to]) (fun id hid=>by
  cases hk:look M.cs id with
  | none=>exact absurd hk hid.some
  | some r=>exact hE.sub _ _ hk) n e l h (fun hl=>Reaches.root (by simp) hl))

theorem right_text {f:Int}(hf:1≤f∧f≤5){M:St}(hF:Fine f M){k:Nat}{x:Edge}(hl:M.leads f x 0=true)(hr:rightK M f x 0)(hto:0≤x.to)(hfit:Fit0 M)(hn:M.n=(k:Int))(hlen:M.len+((2 ^ k:Nat):Int)≤1048576):unfS f M (k+1) x=termK f k (tabE M f x 0) 0:=by
 obtain⟨M',x1,x2,x3,x4,x5,x6⟩:=right_isT (k:=k) hf hF.wf hlen hto hfit hl hr (Int.le_refl _) (by omega)
 have h1:=twoK x2 hf x6 (by rw [x1.n];omega) (Int.le_refl _) k (Nat.le_refl _)
 rw [← h1]
 exact(unf_ext x1 hF (l:=0) ⟨hl,hto,by push_cast;omega⟩).symm

def hasT (n:Nat)(has:Nat→Bool):List Bool:=(List.range (2 ^ n)).map has

theorem hasT_get {n:Nat}{has:Nat→Bool}{X:Nat}(h:X<2 ^ n):(hasT n has)[X]?=some (has X):=by
 unfold hasT
 rw [List.getElem?_map,List.getElem?_range h]
 rfl

theorem tabP_hasT {M:St}{f:Int}{ps:List Int}{x:Edge}{has:Nat→Bool}(hp:permB ps=true)(hn:M.n=(ps.length:Int))(h:tabE M f x 0=bldT has ps 0):tabP M ps f x=hasT ps.length has:=by
 apply List.ext_getElem?
 intro X
 by_cases hX:X<2 ^ ps.length
 ·rw [tabP_get hX,← tabE_dnN hn,h,bldT_dnN,putV_all hp hX,hasT_get hX]
 ·rw [List.getElem?_eq_none (by rw [tabP_len];omega),List.getElem?_eq_none (by unfold hasT;simp;omega)]

theorem tabE_hasT {M:St}{f:Int}{ps:List Int}{x:Edge}{has:Nat→Bool}(hp:permB ps=true)(hn:M.n=(ps.length:Int))(h:tabP M ps f x=hasT ps.length has):tabE M f x 0=bldT has ps 0:=by
 apply List.ext_getElem?
 intro y
 have hl:(tabE M f x 0).length=2 ^ ps.length:=by rw [tabE_len];congr 1;omega
 by_cases hy:y<2 ^ ps.length
 ·obtain⟨X,hX,rfl⟩:=dnN_onto hp hy
  have h1:=tabP_get (M:=M) (f:=f) (e:=x) hX
  rw [h,hasT_get hX] at h1
  rw [tabE_dnN hn,← h1,bldT_dnN,putV_all hp hX]
 ·rw [List.getElem?_eq_none (by omega),List.getElem?_eq_none (by rw [bldT_len];omega)]

theorem info_boolT:(Tryz.prog.info? 4).map (fun i=>(i.zero,i.size,i.bytes))=some (some (.bool false),1,1):=by kernel_rfl

def wAt (ts:List Bool)(x j:Nat):Nat:=numL ((ts.drop (max x (64*j))).take (64*(j+1)-max x (64*j)))

theorem wAt_top (ts:List Bool)(j:Nat):wAt ts ts.length j=0:=by
 unfold wAt
 rw [List.drop_of_length_le (by omega),List.take_nil]
 rfl

theorem wAt_zero (ts:List Bool)(j:Nat):wAt ts 0 j=numL ((ts.drop (64*j)).take 64):=by
 unfold wAt
 rw [show max 0 (64*j)=64*j by omega,show 64*(j+1)-64*j=64 by omega]

theorem wAt_here {ts:List Bool}{x:Nat}{b:Bool}(hb:ts[x]?=some b):wAt ts x (x / 64)=(if b then 1 else 0)+2*wAt ts (x+1) (x / 64):=by
 obtain⟨hl,he⟩:=List.getElem?_eq_some_iff.1 hb
 unfold wAt
 rw [show max x (64*(x / 64))=x by omega,show max (x+1) (64*(x / 64))=x+1 by omega,List.drop_eq_getElem_cons hl,he,show 64*(x / 64+1)-x=(64*(x / 64+1)-(x+1))+1 by omega,List.take_succ_cons]
 rfl

theorem wAt_else {ts:List Bool}{x j:Nat}(hj:¬j=x / 64):wAt ts x j=wAt ts (x+1) j:=by
 unfold wAt
 by_cases h:x<64*j
 ·rw [show max x (64*j)=64*j by omega,show max (x+1) (64*j)=64*j by omega]
 ·rw [show 64*(j+1)-max x (64*j)=0 by omega,show 64*(j+1)-max (x+1) (64*j)=0 by omega,List.take_zero,List.take_zero]

theorem wAt_lt (ts:List Bool)(x:Nat):wAt ts (x+1) (x / 64)<2 ^ 63:=by
 unfold wAt
 have h1:=numL_lt ((ts.drop (max (x+1) (64*(x / 64)))).take (64*(x / 64+1)-max (x+1) (64*(x / 64))))
 have h2:((ts.drop (max (x+1) (64*(x / 64)))).take (64*(x / 64+1)-max (x+1) (64*(x / 64)))).length≤63:=by rw [List.length_take];omega
 exact Nat.lt_of_lt_of_le h1 (Nat.pow_le_pow_right (by decide) h2)

theorem wAt_step {ts:List Bool}{vs:List Int}{x:Nat}{b:Bool}{v y:Int}(hvs:∀ (j:Nat) (v:Int),vs[j]?=some v→v=(wAt ts (x+1) j:Int))(hb:ts[x]?=some b)(hv:vs[x / 64]?=some v)(hy:y=(if b then 1 else 0)+2*v)(j:Nat)(u:Int)(hu:(vs.set (x / 64) y)[j]?=some u):u=(wAt ts x j:Int):=by
 by_cases hj:j=x / 64
 ·subst hj
  rw [List.getElem?_set_self (List.getElem?_eq_some_iff.1 hv).1] at hu
  have h1:=hvs _ v hv
  rw [← Option.some.inj hu,hy,wAt_here hb,h1]
  cases b<;>simp
 ·rw [List.getElem?_set_ne (fun e=>hj e.symm)] at hu
  rw [wAt_else hj]
  exact hvs j u hu

theorem wordsL_range {ts:List Bool}{x:Int}(h:x∈wordsL ts):0≤x∧x<2 ^ 64:=by
 unfold wordsL at h
 obtain⟨w,_,rfl⟩:=List.mem_map.1 h
 have h1:=numL_lt ((ts.drop (64*w)).take 64)
 have h2:((ts.drop (64*w)).take 64).length≤64:=by rw [List.length_take];omega
 have h3:2 ^ ((ts.drop (64*w)).take 64).length≤2 ^ 64:=Nat.pow_le_pow_right (by decide) h2
 have e64:(2:Nat) ^ 64=18446744073709551616:=rfl
 have e64':(2:Int) ^ 64=18446744073709551616:=rfl
 omega

theorem setOf_calls (n:Int)(B cap:Nat)(ts:List Bool)(w:World)(hB:BoolsAt w B ts)(hl:ts.length≤65536)(h0:1≤ts.length) :
  Calls Tryz.prog 91 #[.int .i64 n,.slice (some ⟨B,0,none⟩) ts.length cap] w fun e w'=>∃ g,w.heap.size≤g∧e=.returned (.agg #[.int .i64 n,.slice (some ⟨g,0,none⟩) (wordsL ts).length (wordsL ts).length])∧RowU w' g (wordsL ts)∧Keeps w w':=by
 have hwl:=wordsL_len ts
 obtain⟨j0,hj,jz0,jz1,jz2⟩:=info_parts info_u64
 obtain⟨N,hN⟩:∃ N,N=ts.length:=⟨_,rfl⟩
 rw [← hN] at hl h0 hwl ⊢
 obtain⟨K,hK⟩:∃ K,K=(N+63) / 64:=⟨_,rfl⟩
 rw [← hK] at hwl
 rw [hwl]
 have HB:=Lib.hid hB
 have HN:=Lib.hid hN
 have HWL:=Lib.hid hwl
 have hKi:((N:Int)+63) / 64=(K:Int):=by omega
 have hK1:K≤1025:=by omega
 have hKx:∀ x:Nat,x<N→x / 64<K:=fun x hx=>by omega
 have HKX:=Lib.hid hKx
 clear hB hN hwl hKx hK
 go_enter Tryz.func91,Tryz.ntmps91
 go_wp2_with (first
  | (at_make;refine wpList_make_full _ rfl _ _ 26 rfl (w.heap.size+1) 50 j0 (.int .u64 0) 1 Tryz.underlying26 hj jz0 jz1 .i64 .i64 _ _ K rfl rfl hKi hKi (by rw [jz2];omega) (by unfold maxLen;omega) (by simp) ?_;intro w1 hown1 hg1)
  | fail)
 rw [World.size_alloc] at hown1
 have HR1:=Lib.hid (rowU_made hown1)
 have hkk:Keeps (w.alloc (.cells #[.int .i64 0,.slice none 0 0] 116)) w1:=⟨hg1.os,hg1.tape,hg1.output,hg1.size,fun i hi=>hg1.block i hi (by simp)⟩
 have HKK:=Lib.hid (((Keeps.refl w).alloc _).trans hkk)
 have z0:=hkk.cell (a:=⟨w.heap.size,0,none⟩) (v:=.int .i64 0) (by simp [go_sem])
 have z1:=hkk.cell (a:=⟨w.heap.size,1,none⟩) (v:=.slice none 0 0) (by simp [go_sem])
 have zf:=fun o:Nat=>hkk.frz (a:=⟨w.heap.size,o,none⟩) (by simp) (by simp [go_sem])
 have s1:=hkk.size
 simp only [World.size_alloc] at s1
 clear hown1 hg1 hkk
 go_wp2_with fail
 go_loopg [6] N (fun gk s6 wr=>∃ vs:List Int,s6=.int .i64 ((gk:Int)-1)∧gk≤N∧vs.length=K∧(∀ (j:Nat) (v:Int),vs[j]?=some v→v=(wAt ts gk j:Int))∧RowU wr (w.heap.size+1) vs∧Upd (fun k=>k=w.heap.size+1) w1 wr)
 case atStart=>exact⟨List.replicate K 0,rfl,Nat.le_refl _,by simp,fun j v hv=>by
  have hj:j<K:=by have:=(List.getElem?_eq_some_iff.1 hv).1;simpa using this
  rw [List.getElem?_replicate,if_pos hj] at hv
  rw [← Option.some.inj hv,HN.out,wAt_top]
  rfl,HR1.out,Upd.refl _ _⟩
 case round=>
  obtain⟨vs,rfl,hgN,hvl,hvs,hR,hu⟩:=hrel
  have HR:=Lib.hid hR
  have HU:=Lib.hid hu
  have HVS:=Lib.hid hvs
  have HVL:=Lib.hid hvl
  clear hR hu hvs hvl
  by_cases hg0:0<gk
  ·obtain⟨x,hxg⟩:∃ x,x=gk-1:=⟨_,rfl⟩
   have hgx:gk=x+1:=by omega
   have HGX:=Lib.hid hgx
   rw [show((gk:Int)-1)=(x:Int) from by omega]
   have hxN:x<N:=by omega
   have hxK:=HKX.out x hxN
   obtain⟨v,hv⟩:∃ b,vs[x / 64]?=some b:=⟨_,List.getElem?_eq_getElem (by rw [HVL.out];exact hxK)⟩
   have hve:=HVS.out _ v hv
   have hlt63:=wAt_lt ts x
   rw [HGX.out] at hve
   have v0:0≤v:=by omega
   have v1:v≤9223372036854775807:=by
    have e63:(2:Nat) ^ 63=9223372036854775808:=rfl
    omega
   obtain⟨b,hb⟩:∃ b,ts[x]?=some b:=⟨_,List.getElem?_eq_getElem (by rw [← HN.out];exact hxN)⟩
   have hkw:=(HKK.out.new HU.out (fun k hk=>by omega))
   have cb:=(HB.out.keep (Keeps.upd hkw (fun _=>False)) (fun h=>h)).cell hb
   have cv:=HR.out.cell hv
   have cf:=HR.out.frozen (x / 64)
   have hbl:=lt_of_cell cb
   have hrl:=HR.out.lt
   dsimp only at hbl
   have HV:=Lib.hid hv
   have HVE:=Lib.hid hve
   have HBB:=Lib.hid hb
   have nBw:w.heap.size+1≠B:=fun e=>by have:=HB.out.lt;omega
   have nBw2:B≠w.heap.size+1:=fun e=>nBw e.symm
   have wh:=wAt_here hb
   have HWH:=Lib.hid wh
   clear hv hve hlt63 hb hxg hgx wh
   cases b with
   | true=>
    go_wp2_with fail
    go_roundg (gk-1)
    case rel=>
     refine⟨vs.set (x / 64) (2*v+1),congrArg (Value.int .i64) (by have:=HGX.out;omega),by omega,by rw [List.length_set,HVL.out],fun j u hj=>?_,?_,?_⟩
     ·have:=HGX.out
      rw [show gk-1=x from by omega]
      exact wAt_step (fun j v h=>by have h2:=HVS.out j v h;rw [HGX.out] at h2;exact h2) HBB.out HV.out (by simp;omega) j u hj
     ·have:=(HR.out.set (x / 64) (2*v) (by rw [HVL.out];exact hxK)).set (x / 64) (2*v+1) (by rw [List.length_set,HVL.out];exact hxK)
      rwa [List.set_set] at this
     ·exact(HU.out.setCell (p:=⟨w.heap.size+1,x / 64,none⟩) (.inl rfl) _).setCell (p:=⟨w.heap.size+1,x / 64,none⟩) (.inl rfl) _
    case measure=>omega
   | false=>
    go_wp2_with fail
    go_roundg (gk-1)
    case rel=>
     refine⟨vs.set (x / 64) (2*v),congrArg (Value.int .i64) (by have:=HGX.out;omega),by omega,by rw [List.length_set,HVL.out],fun j u hj=>?_,?_,?_⟩
     ·have:=HGX.out
      rw [show gk-1=x from by omega]
      exact wAt_step (fun j v h=>by have h2:=HVS.out j v h;rw [HGX.out] at h2;exact h2) HBB.out HV.out (by simp) j u hj
     ·exact HR.out.set (x / 64) (2*v) (by rw [HVL.out];exact hxK)
     ·exact HU.out.setCell (p:=⟨w.heap.size+1,x / 64,none⟩) (.inl rfl) _
    case measure=>omega
  ·have hz:gk=0:=by omega
   subst hz
   have hfin:vs=wordsL ts:=by
    apply List.ext_getElem?
    intro j
    by_cases hj:j<K
    ·obtain⟨v,hv⟩:∃ b,vs[j]?=some b:=⟨_,List.getElem?_eq_getElem (by rw [HVL.out];exact hj)⟩
     have h1:=HVS.out j v hv
     rw [wAt_zero] at h1
     have h2:=wordsL_get (ts:=ts) (w:=j) (by rw [← wordsL_len,HWL.out];exact hj)
     rw [List.getD_eq_getElem?_getD] at h2
     obtain⟨u,hu2⟩:∃ b,(wordsL ts)[j]?=some b:=⟨_,List.getElem?_eq_getElem (by rw [HWL.out];exact hj)⟩
     rw [hu2] at h2
     rw [hv,hu2,h1,← h2]
     rfl
    ·rw [List.getElem?_eq_none (by rw [HVL.out];omega),List.getElem?_eq_none (by rw [HWL.out];omega)]
   have hRf:=HR.out
   rw [hfin] at hRf
   have hUf:=HU.out
   have y0:=hUf.cellAt (by omega) z0
   have y1:=hUf.cellAt (by omega) z1
   have yf:=fun o:Nat=>hUf.frozen (a:=⟨w.heap.size,o,none⟩) (by dsimp only;omega) (by dsimp only;omega) (zf o)
   have hkw:=(HKK.out.new hUf (fun k hk=>by omega))
   have hws:=hUf.size
   have hwl:w.heap.size<wr.heap.size:=by omega
   have HRF:=Lib.hid hRf
   have HUF:=Lib.hid hUf
   have HKW:=Lib.hid hkw
   clear hRf hUf hkw z0 z1 zf hfin
   go_wp2_with fail
   refine bodyPost_ret (v:=.agg #[.int .i64 n,.slice (some ⟨w.heap.size+1,0,none⟩) K K]) (by simp [results,Tryz.results91,go_sem,y0,y1,hwl]) rfl ⟨w.heap.size+1,by omega,rfl,?_,?_⟩
   ·exact HRF.out.keep ((Upd.refl (fun k=>k=w.heap.size) wr).setCell (p:=⟨w.heap.size,0,none⟩) (.inl rfl) _ |>.setCell (p:=⟨w.heap.size,1,none⟩) (.inl rfl) _) (by omega)
   ·exact HKW.out.new ((Upd.refl (fun k=>k=w.heap.size) wr).setCell (p:=⟨w.heap.size,0,none⟩) (.inl rfl) _ |>.setCell (p:=⟨w.heap.size,1,none⟩) (.inl rfl) _) (fun k hk=>by omega)

end Go.Proofs.YtpgcbmbnognieaaGreat
