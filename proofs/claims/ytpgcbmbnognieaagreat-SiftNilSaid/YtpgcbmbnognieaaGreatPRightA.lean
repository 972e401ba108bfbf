/-
  A row of bools of the call's own; which ids of the document's list are marked.
-/
import Derived.Test.YtpgcbmbnognieaaGreatPReachA
import Derived.Test.YtpgcbmbnognieaaGreatPViewT
import Derived.Laws.OwnMore
namespace Go.Proofs.YtpgcbmbnognieaaGreat
set_option maxRecDepth 1000000
set_option maxHeartbeats 8000000
set_option linter.unusedSimpArgs false
set_option linter.unusedVariables false
open Go.RowKit

def BoolsAt (w:World)(blk:Nat)(bs:List Bool):Prop:=w.heap[blk]?=some (.cells (bs.map Value.bool).toArray 4 (0,0))

theorem BoolsAt.cell {w:World}{blk:Nat}{bs:List Bool}(h:BoolsAt w blk bs){i:Nat}{b:Bool}(hb:bs[i]?=some b):w.cell? ⟨blk,i,none⟩=some (.bool b):=by
 rw [cell_of_row w blk i _ _ _ h]
 simp [hb]

theorem BoolsAt.frozen {w:World}{blk:Nat}{bs:List Bool}(h:BoolsAt w blk bs)(i:Nat):w.frozen? ⟨blk,i,none⟩=false:=frozen_of_row w blk i _ _ h

theorem BoolsAt.lt {w:World}{blk:Nat}{bs:List Bool}(h:BoolsAt w blk bs):blk<w.heap.size:=lt_of_heap h

theorem BoolsAt.keep {G:Nat→Prop}{w w':World}{blk:Nat}{bs:List Bool}(h:BoolsAt w blk bs)(hu:Upd G w w')(hg:¬G blk):BoolsAt w' blk bs:=(hu.block blk h.lt hg).trans h

theorem BoolsAt.set {w:World}{blk:Nat}{bs:List Bool}(h:BoolsAt w blk bs)(i:Nat)(b:Bool):BoolsAt (w.setCell ⟨blk,i,none⟩ (.bool b)) blk (bs.set i b):=by
 have e:=Go.heap_setCell_same w blk i _ _ (.bool b) h
 unfold BoolsAt
 rw [e]
 simp [List.map_set]

theorem bools_made {w:World}{blk n:Nat}(h:w.ownsRow blk 4 1 (.slice (some ⟨blk,0,none⟩) n n) n (madeCells (Value.bool false).cells (n*1)).toList):BoolsAt w blk (List.replicate n false):=by
 obtain⟨cur,hcur⟩:=owns_type h (k:=blk) rfl
 rcases h.2 with⟨h0,_⟩|⟨g,cap,cur',hv,_,hg,_,_,hs,ht⟩
 ·cases h0
 ·cases hv
  unfold BoolsAt
  rw [hg]
  have e1:(madeCells (Value.bool false).cells (n*1)).toList=List.replicate n (Value.bool false):=by
   show(madeCells #[Value.bool false] (n*1)).toList=_
   rw [toList_madeCells_one,Nat.mul_one]
  rw [e1] at ht
  have e2:cur'.toList=List.replicate n (Value.bool false):=by
   rw [← ht,List.take_of_length_le (by simp;omega)]
  congr 2
  rw [List.map_replicate,← e2]

def one (m:Bool):Nat:=if m then 1 else 0

def wrongB (M:St)(f:Int)(r:Rec):Bool:=
 if f=5 then decide (r.hi.to=0)&&decide (r.lo.tag=r.top+1)
 else match look M.cs r.lo.to with
  | none=>false
  | some x=>decide (x.top=r.bot+1)&&(if f=4 then decide (r.lo=r.hi) else decide (x.hi=r.hi))

noncomputable def rightL (M:St)(f:Int)(e:Edge)(l:Int):Bool:=
 M.leads f e l&&(reachL M.cs [e.to]).all (fun id=>!wrongB M f (grec (look M.cs id)))

theorem rightL_no {M:St}{f:Int}{e:Edge}{l:Int}(h:M.leads f e l=false):rightL M f e l=false:=by unfold rightL;rw [h];rfl

theorem rightL_bad {M:St}{f:Int}{e:Edge}{l:Int}{d:Nat}{id:Int}(hi:(reachL M.cs [e.to])[d]?=some id)(hw:wrongB M f (grec (look M.cs id))=true):rightL M f e l=false:=by
 unfold rightL
 have:(reachL M.cs [e.to]).all (fun id=>!wrongB M f (grec (look M.cs id)))=false:=by
  rw [List.all_eq_false]
  exact⟨id,List.mem_of_getElem? hi,by rw [hw];simp⟩
 rw [this,Bool.and_false]

theorem rightL_good {M:St}{f:Int}{e:Edge}{l:Int}(h:M.leads f e l=true)(hw:∀ (i:Nat) (id:Int),i<(reachL M.cs [e.to]).length→(reachL M.cs [e.to])[i]?=some id→wrongB M f (grec (look M.cs id))=false):rightL M f e l=true:=by
 unfold rightL
 rw [h,Bool.true_and,List.all_eq_true]
 intro id hid
 obtain⟨i,hi⟩:=List.getElem?_of_mem hid
 rw [hw i id (List.getElem?_eq_some_iff.1 hi).1 hi]
 rfl

theorem reach_rec {M:St}(h:M.wf){es:List Int}{d:Nat}{id:Int}(hi:(reachL M.cs es)[d]?=some id):∃ r,look M.cs id=some r∧GoodRec M r∧2≤id∧id≤(M.cs.length:Int)+1:=by
 have h1:=(mem_reachL.1 (List.mem_of_getElem? hi)).some
 cases hl:look M.cs id with
 | none=>exact absurd hl h1
 | some r=>
  have:=look_some hl
  exact⟨r,rfl,h.goodRec hl,this.1,by omega⟩

theorem isEdges_one {W:World}{b:Nat}{e:Edge}(he:e.ok)(c0:W.cell? ⟨b,0,none⟩=some (.int .u8 e.tag))(c1:W.cell? ⟨b,1,none⟩=some (.int .u32 e.to)):IsEdges W (some ⟨b,0,none⟩) 1 [e]:=by
 refine⟨rfl,fun i x hx=>?_⟩
 cases i with
 | zero=>simp at hx;subst hx;exact⟨he,b,0,rfl,c0,c1⟩
 | succ i=>simp at hx

theorem reachL_few {M:St}(h:M.wf)(hf:M.cs.length≤1048576)(es:List Int):(reachL M.cs es).length≤1048576:=by
 have h1:=ids_few M.cs.length (reachL M.cs es) ((reachL_rising M.cs es).imp (fun h=>by omega)) (fun x hx=>by
  have h1:=(mem_reachL.1 hx).some
  cases hl:look M.cs x with
  | none=>exact absurd hl h1
  | some r=>have:=look_some hl;exact⟨this.1,this.2.1⟩)
 omega

theorem StoreRep.few {F:Nat→Prop}{w:World}{sb:Nat}{M:St}(h:StoreRep F w sb M):M.cs.length≤1048576:=by
 obtain⟨⟨ab,ib,ts,Fa,Fi,_,h2,_⟩,_⟩:=h
 exact h2.few

theorem plainB_iff {f:Int}{e:Edge}{l n:Int}:plainB f e l n=true↔(1≤f∧f≤5∧0≤n∧n≤16∧0≤l∧l≤n∧((f≠5∨e.to=0)→e.tag=0)∧(f=5→e.to≠0→l≤e.tag∧e.tag≤n)):=by
 unfold plainB isFormB mayB
 constructor
 ·intro h
  split at h
  ·cases h
  ·rename_i c
   simp only [Bool.or_eq_true,Bool.not_eq_true',Bool.and_eq_false_iff,decide_eq_false_iff_not,decide_eq_true_eq,not_or] at c
   split at h
   ·rename_i d
    simp only [Bool.or_eq_true,bne_iff_ne,ne_eq,beq_iff_eq] at d
    have:=eq_of_beq h
    refine⟨by omega,by omega,by omega,by omega,by omega,by omega,fun _=>this,fun h5 h0=>?_⟩
    rcases d with d|d
    ·exact absurd h5 d
    ·exact absurd d h0
   ·rename_i d
    simp only [Bool.or_eq_true,bne_iff_ne,ne_eq,beq_iff_eq,not_or,Decidable.not_not] at d
    simp only [Bool.and_eq_true,decide_eq_true_eq] at h
    refine⟨by omega,by omega,by omega,by omega,by omega,by omega,fun hh=>?_,fun _ _=>h⟩
    rcases hh with hh|hh
    ·exact absurd d.1 hh
    ·exact absurd hh d.2
 ·rintro⟨h1,h2,h3,h4,h5,h6,h7,h8⟩
  have c:¬(!(decide (1≤f)&&decide (f≤5))||!(decide (0≤n)&&decide (n≤16))||decide (l<0)||decide (n<l))=true:=by
   simp only [Bool.or_eq_true,Bool.not_eq_true',Bool.and_eq_false_iff,decide_eq_false_iff_not,decide_eq_true_eq]
   omega
  rw [if_neg c]
  by_cases d:f≠5∨e.to=0
  ·have d':(f != 5||e.to==0)=true:=by simpa using d
   rw [if_pos d']
   simpa using h7 d
  ·have d':¬(f != 5||e.to==0)=true:=by simpa using d
   rw [if_neg d']
   have:=h8 (by omega) (by omega)
   simpa using this

theorem leads_iff {M:St}{f:Int}{e:Edge}{l:Int}:M.leads f e l=true↔(plainB f e l M.n=true∧(e.to<2∨∃ r,look M.cs e.to=some r∧r.form=f∧l≤r.top∧e.tag≤r.top)):=by
 refine⟨leads_cases,?_⟩
 rintro⟨h1,h2⟩
 unfold St.leads
 rw [h1,Bool.true_and]
 rcases h2 with h2|⟨r,hr,h3,h4,h5⟩
 ·rw [decide_eq_true h2];rfl
 ·rw [hr]
  simp [h3,h4,h5]

theorem leads_down {M:St}{f:Int}{e:Edge}{l l':Int}(h:M.leads f e l=true)(h0:0≤l')(h1:l'≤l):M.leads f e l'=true:=by
 obtain⟨hp,hr⟩:=leads_iff.1 h
 obtain⟨p1,p2,p3,p4,p5,p6,p7,p8⟩:=plainB_iff.1 hp
 refine leads_iff.2 ⟨plainB_iff.2 ⟨p1,p2,p3,p4,h0,by omega,p7,fun a b=>by have:=p8 a b;omega⟩,?_⟩
 rcases hr with hr|⟨r,q1,q2,q3,q4⟩
 ·exact .inl hr
 ·exact .inr ⟨r,q1,q2,by omega,q4⟩

theorem find_old {M:St}(h:M.wf){r:Rec}{id:Int}(hl:look M.cs id=some r):M.findErr r=0∧M.findId r=id∧M.findSt r=M:=by
 have hi:=(idOf_iff h.once r id).1 hl
 unfold St.findErr St.findId St.findSt
 rw [hi]
 exact⟨rfl,rfl,rfl⟩

theorem find_good {M:St}(h:M.wf){r:Rec}(hb:M.bad r=false)(hroom:M.len<M.room) :
  M.findErr r=0∧look (M.findSt r).cs (M.findId r)=some r∧(∀ id r',look M.cs id=some r'→look (M.findSt r).cs id=some r')∧(M.findSt r).n=M.n∧(M.findSt r).wf∧2≤M.findId r:=by
 cases hi:M.idOf r with
 | some id=>
  have hl:=(idOf_iff h.once r id).2 hi
  obtain⟨a,b,c⟩:=find_old h hl
  rw [b,c]
  exact⟨a,hl,fun _ _ h=>h,rfl,h,(look_some hl).1⟩
 | none=>
  have e1:M.findErr r=0:=by unfold St.findErr;rw [hi];simp only [];rw [if_neg (by rw [hb];simp),if_neg (by omega)]
  have e2:M.findId r=putId M.gone M.cs.length:=by unfold St.findId;rw [hi];simp only [];rw [if_neg (by rw [hb];simp),if_neg (by omega)]
  have e3:M.findSt r=M.add r:=by unfold St.findSt;rw [hi];simp only [];rw [if_neg (by rw [hb];simp),if_neg (by omega)];rfl
  refine⟨e1,?_,?_,by rw [findSt_n],h.find r,?_⟩
  ·rw [e2,e3]
   exact(h.look_add r _ _).2 (.inl ⟨rfl,rfl⟩)
  ·intro id r' hl
   rw [e3]
   exact(h.look_add r _ _).2 (.inr hl)
  ·rw [e2]
   exact(putId_range h.gone).1

theorem rest_good {M:St}{r:Rec}(g:GoodRec M r)(hn:M.n≤16)(h0:0≤r.top)(hc:r.form=3∨r.form=4)(hne:r.bot≠r.top):M.bad ⟨r.form,r.top+1,r.bot,r.lo,r.hi⟩=false:=by
 have t1:=g.tb
 have t2:=g.bn
 have p1:=(leads_iff.1 g.lo).1
 have p2:=(leads_iff.1 g.hi).1
 unfold St.bad
 simp only [Bool.or_eq_false_iff,Bool.not_eq_false']
 refine⟨⟨?_,g.lo⟩,g.hi⟩
 unfold rightB isFormB mayB chainedB
 have c1:¬(!(decide (1≤r.form)&&decide (r.form≤5))||!(decide (0≤M.n)&&decide (M.n≤16))||decide (r.bot<r.top+1)||decide (M.n≤r.bot)||(r.top+1 != r.bot&&!(r.form==3||r.form==4)))=true:=by
  simp only [Bool.or_eq_true,Bool.not_eq_true',Bool.and_eq_true,Bool.and_eq_false_iff,Bool.or_eq_false_iff,decide_eq_false_iff_not,decide_eq_true_eq,beq_eq_false_iff_ne]
  have:=g.f1
  have:=g.f5
  omega
 rw [if_neg c1,if_neg (by rw [p1,p2];simp)]
 rcases hc with hc|hc
 ·rw [if_neg (by simp [hc])]
  have:=g.apart (by omega) (by omega)
  cases he:(r.lo.tag==r.hi.tag&&r.lo.to==r.hi.to) with
  | false=>rfl
  | true=>
   simp only [Bool.and_eq_true,beq_iff_eq] at he
   exact absurd (by cases hl:r.lo;cases hh:r.hi;rw [hl,hh] at he;simp at he;rw [he.1,he.2]) this
 ·rw [if_pos (by simp [hc])]
  simpa using g.zero (.inr hc)

theorem findId_fit {M:St}(h:M.wf)(hf:M.cs.length≤1048576)(r:Rec):0≤M.findId r∧M.findId r≤4294967295:=by
 unfold St.findId
 cases hi:M.idOf r with
 | some id=>have:=look_some (idOf_look hi);simp only [];omega
 | none=>
  simp only []
  have:=putId_range h.gone
  split
  ·omega
  ·split<;>omega

theorem foundE_fit {M:St}(h:M.wf)(hf:M.cs.length≤1048576)(t:Int)(ht:0≤t∧t≤255)(r:Rec):(foundE M t r).ok:=by
 unfold foundE
 split
 ·exact⟨ht,findId_fit h hf r⟩
 ·exact⟨⟨by show(0:Int)≤0;omega,by show(0:Int)≤255;omega⟩,⟨by show(0:Int)≤0;omega,by show(0:Int)≤4294967295;omega⟩⟩

theorem edge0_ok:(⟨0,0⟩:Edge).ok:=⟨by decide,by decide⟩

theorem view_fit {M:St}(h:M.wf)(hf:M.cs.length≤1048576)(hfit:∀ id r,look M.cs id=some r→r.ok){f:Int}{e:Edge}{l:Int}(he:e.ok)(h0:0≤l)(h1:l<M.n) :
  (vLo M (viewAct M f e l)).ok∧(vHi M f (viewAct M f e l)).ok:=by
 have hn:=h.n16
 have hout:(vOut f l e).1.ok∧(vOut f l e).2.1.ok:=by
  unfold vOut
  split
  ·exact⟨he,he⟩
  ·split
   ·exact⟨⟨⟨by show 0≤l+1;omega,by show l+1≤255;omega⟩,he.2⟩,edge0_ok⟩
   ·exact⟨he,edge0_ok⟩
 unfold viewAct
 split
 ·exact⟨edge0_ok,edge0_ok⟩
 ·split
  ·exact⟨edge0_ok,edge0_ok⟩
  ·split
   ·exact⟨he,he⟩
   ·cases hk:look M.cs e.to with
    | none=>exact hout
    | some r=>
     have hok:=hfit _ _ hk
     simp only []
     split
     ·exact hout
     ·split
      ·refine⟨foundE_fit h hf 0 (by omega) _,?_⟩
       show(if M.findErr _=0 then(if f=4 then foundE M 0 _ else _) else⟨0,0⟩:Edge).ok
       split
       ·split
        ·exact foundE_fit h hf 0 (by omega) _
        ·exact hok.hi
       ·exact edge0_ok
      ·exact⟨hok.lo,hok.hi⟩

end Go.Proofs.YtpgcbmbnognieaaGreat
