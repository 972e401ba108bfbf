/-
  A row of bools of the call's own; which ids of the document's list are marked.
-/
import Derived.Test.YtafkamlhimkbmaaGreatPReachA
import Derived.Laws.OwnMore
namespace Go.Proofs.YtafkamlhimkbmaaGreat
set_option maxRecDepth 1000000
set_option maxHeartbeats 8000000
set_option linter.unusedSimpArgs false
set_option linter.unusedVariables false
open Go.RowKit

def bu (w:World)(j:Nat)(q:List Bool):Prop:=w.heap[j]?=some (.cells (q.map Value.bool).toArray 4 (0,0))

theorem bu.cell {w:World}{j:Nat}{q:List Bool}(h:bu w j q){i:Nat}{b:Bool}(s:q[i]?=some b):w.cell? ⟨j,i,none⟩=some (.bool b):=by
 rw[cell_of_row w j i _ _ _ h];simp[s]

theorem bu.frozen {w:World}{j:Nat}{q:List Bool}(h:bu w j q)(i:Nat):w.frozen? ⟨j,i,none⟩=false:=frozen_of_row w j i _ _ h

theorem bu.lt {w:World}{j:Nat}{q:List Bool}(h:bu w j q):j<w.heap.size:=aN h

theorem bu.a5 {G:Nat→Prop}{w w':World}{j:Nat}{q:List Bool}(h:bu w j q)(t:ae G w w')(s:¬G j):bu w' j q:=(t.block j h.lt s).trans h

theorem bu.set {w:World}{j:Nat}{q:List Bool}(h:bu w j q)(i:Nat)(b:Bool):bu (w.setCell ⟨j,i,none⟩ (.bool b)) j (q.set i b):=by
 have e:=Go.heap_setCell_same w j i _ _ (.bool b) h;unfold bu;rw[e];simp[List.map_set]

theorem lZ {w:World}{j n:Nat}(h:w.ownsRow j 4 1 (.slice (some ⟨j,0,none⟩) n n) n (madeCells (Value.bool false).cells (n*1)).toList):bu w j (List.replicate n false):=by
 obtain⟨I,J⟩:=bM h (k:=j) rfl;rcases h.2 with⟨z,_⟩|⟨g,cap,s,E,_,A,_,_,j,q⟩
 ·cases z
 ·cases E;unfold bu;rw[A]
  have j:(madeCells (Value.bool false).cells (n*1)).toList=List.replicate n (Value.bool false):=by
   show(madeCells #[Value.bool false] (n*1)).toList=_;rw[toList_madeCells_one,Nat.mul_one]
  rw[j]at q
  have t:s.toList=List.replicate n (Value.bool false):=by
   rw[←q,List.take_of_length_le (by simp;omega)]
  congr 2
  rw[List.map_replicate,←t]

def one (m:Bool):Nat:=if m then 1 else 0

def aV (M:St)(f:Int)(r:Rec):Bool:=
 if f=5 then decide (r.hi.to=0)&&decide (r.lo.tag=r.I+1)
 else match look M.cs r.lo.to with
  |none=>false
  |some x=>decide (x.I=r.J+1)&&(if f=4 then decide (r.lo=r.hi)else decide (x.hi=r.hi))

noncomputable def bf (M:St)(f:Int)(e:Edge)(l:Int):Bool:=
 M.leads f e l&&(aQ M.cs [e.to]).all (fun id=>!aV M f (an (look M.cs id)))

theorem nD {M:St}{f:Int}{e:Edge}{l:Int}(h:M.leads f e l=false):bf M f e l=false:=by unfold bf;rw[h];rfl

theorem ny {M:St}{f:Int}{e:Edge}{l:Int}{d:Nat}{id:Int}(hi:(aQ M.cs [e.to])[d]?=some id)(j:aV M f (an (look M.cs id))=true):bf M f e l=false:=by
 unfold bf
 have:(aQ M.cs [e.to]).all (fun id=>!aV M f (an (look M.cs id)))=false:=by
  rw[List.all_eq_false];exact⟨id,List.mem_of_getElem? hi,by rw[j];simp⟩
 rw[this,Bool.and_false]

theorem nz {M:St}{f:Int}{e:Edge}{l:Int}(h:M.leads f e l=true)(j:∀(i:Nat) (id:Int),i<(aQ M.cs [e.to]).length→(aQ M.cs [e.to])[i]?=some id→aV M f (an (look M.cs id))=false):bf M f e l=true:=by
 unfold bf;rw[h,Bool.true_and,List.all_eq_true];intro id hid;obtain⟨i,hi⟩:=List.getElem?_of_mem hid;rw[j i id (List.getElem?_eq_some_iff.1 hi).1 hi];rfl

theorem ni {M:St}(h:M.wf){es:List Int}{d:Nat}{id:Int}(hi:(aQ M.cs es)[d]?=some id):∃r,look M.cs id=some r∧jh M r∧2≤id∧id≤(M.cs.length:Int)+1:=by
 have q:=(eL.1 (List.mem_of_getElem? hi)).some;cases j:look M.cs id with
 |none=>exact absurd j q
 |some r=>
  have:=bL j;exact⟨r,rfl,h.b8 j,this.1,by omega⟩

theorem mA {j:World}{b:Nat}{e:Edge}(z:e.ok)(s:j.cell? ⟨b,0,none⟩=some (.int .u8 e.tag))(t:j.cell? ⟨b,1,none⟩=some (.int .u32 e.to)):fO j (some ⟨b,0,none⟩) 1 [e]:=by
 refine⟨rfl,fun i x q=>?_⟩;cases i with
 |zero=>simp at q;subst q;exact⟨z,b,0,rfl,s,t⟩
 |succ i=>simp at q

theorem nh {M:St}(h:M.wf)(q:M.cs.length≤1048576)(es:List Int):(aQ M.cs es).length≤1048576:=by
 have j:=pz M.cs.length (aQ M.cs es) ((iX M.cs es).imp (fun h=>by omega)) (fun x q=>by
  have j:=(eL.1 q).some;cases q:look M.cs x with
  |none=>exact absurd q j
  |some r=>have:=bL q;exact⟨this.1,this.2.1⟩)
 omega

theorem ag.bx {F:Nat→Prop}{w:World}{j:Nat}{M:St}(h:ag F w j M):M.cs.length≤1048576:=by
 obtain⟨⟨t,ib,ts,q,s,_,j,_⟩,_⟩:=h;exact j.bx

theorem bm {f:Int}{e:Edge}{l n:Int}:dY f e l n=true↔(1≤f∧f≤5∧0≤n∧n≤16∧0≤l∧l≤n∧((f≠5∨e.to=0)→e.tag=0)∧(f=5→e.to≠0→l≤e.tag∧e.tag≤n)):=by
 unfold dY bG fT;constructor
 ·intro h;split at h;·cases h
  ·rename_i c;simp only[Bool.or_eq_true,Bool.not_eq_true',Bool.and_eq_false_iff,decide_eq_false_iff_not,decide_eq_true_eq,not_or]at c;split at h
   ·rename_i d;simp only[Bool.or_eq_true,bne_iff_ne,ne_eq,beq_iff_eq]at d;have:=eq_of_beq h;refine⟨by omega,by omega,by omega,by omega,by omega,by omega,fun _=>this,fun q s=>?_⟩;rcases d with d|d;·exact absurd q d
    ·exact absurd d s
   ·rename_i d;simp only[Bool.or_eq_true,bne_iff_ne,ne_eq,beq_iff_eq,not_or,Decidable.not_not]at d;simp only[Bool.and_eq_true,decide_eq_true_eq]at h;refine⟨by omega,by omega,by omega,by omega,by omega,by omega,fun j=>?_,fun _ _=>h⟩;rcases j with j|j;·exact absurd d.1 j
    ·exact absurd j d.2
 ·rintro⟨j,s,A,E,q,I,t,z⟩
  have c:¬(!(decide (1≤f)&&decide (f≤5))||!(decide (0≤n)&&decide (n≤16))||decide (l<0)||decide (n<l))=true:=by
   simp only[Bool.or_eq_true,Bool.not_eq_true',Bool.and_eq_false_iff,decide_eq_false_iff_not,decide_eq_true_eq];omega
  rw[if_neg c];by_cases d:f≠5∨e.to=0
  ·have d':(f != 5||e.to==0)=true:=(by simpa using d);rw[if_pos d'];simpa using t d
  ·have d':¬(f != 5||e.to==0)=true:=(by simpa using d);rw[if_neg d'];have:=z (by omega) (by omega);simpa using this

theorem aY {M:St}{f:Int}{e:Edge}{l:Int}:M.leads f e l=true↔(dY f e l M.n=true∧(e.to<2∨∃r,look M.cs e.to=some r∧r.ad=f∧l≤r.I∧e.tag≤r.I)):=by
 refine⟨gQ,?_⟩;rintro⟨q,j⟩;unfold St.leads;rw[q,Bool.true_and];rcases j with j|⟨r,A,s,t,z⟩;·rw[decide_eq_true j];rfl
 ·rw[A];simp[s,t,z]

theorem kH {M:St}{f:Int}{e:Edge}{l l':Int}(h:M.leads f e l=true)(q:0≤l')(t:l'≤l):M.leads f e l'=true:=by
 obtain⟨s,j⟩:=aY.1 h;obtain⟨t,z,A,E,K,L,I,J⟩:=bm.1 s;refine aY.2 ⟨bm.2 ⟨t,z,A,E,q,by omega,I,fun a b=>by have:=J a b;omega⟩,?_⟩;rcases j with j|⟨r,q,s,z,t⟩;·exact .inl j
 ·exact .inr ⟨r,q,s,by omega,t⟩

theorem jw {M:St}(h:M.wf){r:Rec}{id:Int}(j:look M.cs id=some r):M.a7 r=0∧M.bg r=id∧M.a6 r=M:=by
 have hi:=(jz h.b2 r id).1 j;unfold St.a7 St.bg St.a6;rw[hi];exact⟨rfl,rfl,rfl⟩

theorem ju {M:St}(h:M.wf){r:Rec}(q:M.bq r=false)(E:M.len<M.room) :
  M.a7 r=0∧look (M.a6 r).cs (M.bg r)=some r∧(∀id s,look M.cs id=some s→look (M.a6 r).cs id=some s)∧(M.a6 r).n=M.n∧(M.a6 r).wf∧2≤M.bg r:=by
 cases hi:M.b4 r with
 |some id=>
  have j:=(jz h.b2 r id).2 hi;obtain⟨a,b,c⟩:=jw h j;rw[b,c];exact⟨a,j,fun _ _ h=>h,rfl,h,(bL j).1⟩
 |none=>
  have A:M.a7 r=0:=by unfold St.a7;rw[hi];simp only[];rw[if_neg (by rw[q];simp),if_neg (by omega)]
  have t:M.bg r=dN M.gone M.cs.length:=by unfold St.bg;rw[hi];simp only[];rw[if_neg (by rw[q];simp),if_neg (by omega)]
  have z:M.a6 r=M.add r:=by unfold St.a6;rw[hi];simp only[];rw[if_neg (by rw[q];simp),if_neg (by omega)];rfl
  refine⟨A,?_,?_,by rw[vx],h.g0 r,?_⟩
  ·rw[t,z];exact(h.fi r _ _).2 (.inl ⟨rfl,rfl⟩)
  ·intro id s j;rw[z];exact(h.fi r _ _).2 (.inr j)
  ·rw[t];exact(nc h.gone).1

theorem lh {M:St}{r:Rec}(g:jh M r)(I:M.n≤16)(E:0≤r.I)(j:r.ad=3∨r.ad=4)(J:r.J≠r.I):M.bq ⟨r.ad,r.I+1,r.J,r.lo,r.hi⟩=false:=by
 have E:=g.tb;have E:=g.bn;have z:=(aY.1 g.lo).1;have A:=(aY.1 g.hi).1;unfold St.bq;simp only[Bool.or_eq_false_iff,Bool.not_eq_false'];refine⟨⟨?_,g.lo⟩,g.hi⟩;unfold gU bG fT eY
 have s:¬(!(decide (1≤r.ad)&&decide (r.ad≤5))||!(decide (0≤M.n)&&decide (M.n≤16))||decide (r.J<r.I+1)||decide (M.n≤r.J)||(r.I+1 != r.J&&!(r.ad==3||r.ad==4)))=true:=by
  simp only[Bool.or_eq_true,Bool.not_eq_true',Bool.and_eq_true,Bool.and_eq_false_iff,Bool.or_eq_false_iff,decide_eq_false_iff_not,decide_eq_true_eq,beq_eq_false_iff_ne];have:=g.f1;have:=g.f5;omega
 rw[if_neg s,if_neg (by rw[z,A];simp)];rcases j with j|j
 ·rw[if_neg (by simp[j])];have:=g.apart (by omega) (by omega);cases q:(r.lo.tag==r.hi.tag&&r.lo.to==r.hi.to)with
  |false=>rfl
  |true=>
   simp only[Bool.and_eq_true,beq_iff_eq]at q;exact absurd (by cases t:r.lo;cases s:r.hi;rw[t,s]at q;simp at q;rw[q.1,q.2]) this
 ·rw[if_pos (by simp[j])];simpa using g.zero (.inr j)

theorem vt {M:St}(h:M.wf)(j:M.cs.length≤1048576)(r:Rec):0≤M.bg r∧M.bg r≤4294967295:=by
 unfold St.bg;cases hi:M.b4 r with
 |some id=>have:=bL (jA hi);simp only[];omega
 |none=>
  simp only[];have:=nc h.gone;split;·omega
  ·split<;>omega

theorem ie {M:St}(h:M.wf)(q:M.cs.length≤1048576)(j:Int)(s:0≤j∧j≤255)(r:Rec):(ba M j r).ok:=by
 unfold ba;split;·exact⟨s,vt h q r⟩
 ·exact⟨⟨by show(0:Int)≤0;omega,by show(0:Int)≤255;omega⟩,⟨by show(0:Int)≤0;omega,by show(0:Int)≤4294967295;omega⟩⟩

theorem dQ:(⟨0,0⟩:Edge).ok:=⟨by decide,by decide⟩

theorem ov {M:St}(h:M.wf)(s:M.cs.length≤1048576)(z:∀id r,look M.cs id=some r→r.ok){f:Int}{e:Edge}{l:Int}(j:e.ok)(A:0≤l)(E:l<M.n) :
  (bN M (af M f e l)).ok∧(bk M f (af M f e l)).ok:=by
 have A:=h.bw
 have t:(aI f l e).1.ok∧(aI f l e).2.1.ok:=by
  unfold aI;split;·exact⟨j,j⟩
  ·split;·exact⟨⟨⟨by show 0≤l+1;omega,by show l+1≤255;omega⟩,j.2⟩,dQ⟩
   ·exact⟨j,dQ⟩
 unfold af
 split
 ·exact⟨dQ,dQ⟩
 ·split;·exact⟨dQ,dQ⟩
  ·split;·exact⟨j,j⟩
   ·cases j:look M.cs e.to with
    |none=>exact t
    |some r=>
     have q:=z _ _ j;simp only[];split;·exact t
     ·split
      ·refine⟨ie h s 0 (by omega) _,?_⟩;show(if M.a7 _=0 then(if f=4 then ba M 0 _ else _)else⟨0,0⟩:Edge).ok;split
       ·split;·exact ie h s 0 (by omega) _
        ·exact q.hi
       ·exact dQ
      ·exact⟨q.lo,q.hi⟩

end Go.Proofs.YtafkamlhimkbmaaGreat
