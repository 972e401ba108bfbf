/-
  A diagram's text behind a sweep, and behind nodes that came in.
-/
import Derived.Test.YtafkamlhimkbmaaGreatPPartsA
import Derived.Test.YtafkamlhimkbmaaGreatPPermO
import Derived.Test.YtafkamlhimkbmaaGreatPSetW
namespace Go.Proofs.YtafkamlhimkbmaaGreat
set_option maxRecDepth 1000000
set_option maxHeartbeats 8000000
set_option linter.unusedSimpArgs false
set_option linter.unusedVariables false
open Go.RowKit

theorem Ca {f:Int}{M M':St}(q:cN f M){roots:List Int}(E:∀id,Reaches M.cs roots id→look M'.cs id=look M.cs id) :
  ∀(n:Nat) (e:Edge) (l:Int),At f M e l n→(look M.cs e.to≠none→Reaches M.cs roots e.to)→aY f M' n e=aY f M n e:=by
 intro n
 induction n with
 |zero=>intro e l h;obtain⟨m,s⟩:=h.pos q;omega
 |succ n A=>
  intro e l h K;rcases h.cases q with⟨q,s⟩|⟨r,j,_,_,_,_,_,_,_,_,J,I⟩
  ·rw[gv q s,gv q s]
  ·have z:=K (by rw[j];simp);have q:look M'.cs e.to=some r:=(by rw[E _ z,j]);have t:=Reaches.closed M.cs roots e.to r z j;rw[gw j,gw q];unfold dn;rw[A _ _ J t.1,A _ _ I t.2]

theorem BV {f:Int}{M M':St}{n:Nat}{e:Edge}(h:aY f M' n e=aY f M n e):ar f M' n e=ar f M n e:=by
 apply ByteArray.ext;exact Array.toList_inj.1 h

theorem ag.e5 {F:Nat→Prop}{w:World}{j:Nat}{M:St}(h:ag F w j M)(f:Int)(q:M.n≤9):cN f M:=⟨h.wf,fun _ _ j=>⟨(h.b1 j).lo.2.1,(h.b1 j).hi.2.1⟩,q⟩

def di (out:List ByteArray)(x:ByteArray):List ByteArray:=if out.any (fun j=>j.toList==x.toList)then out else out++[x]

theorem oz {x y:ByteArray}(h:x.data.toList=y.data.toList):x=y:=by
 cases x;cases y;exact congrArg ByteArray.mk (Array.toList_inj.1 h)

theorem n7 (out:List ByteArray)(x:ByteArray):out.any (fun j=>j.toList==x.toList)=true↔x∈out:=by
 rw[List.any_eq_true];constructor
 ·rintro⟨j,s,q⟩;have j:=eq_of_beq q;rw[ByteArray.toList_eq,ByteArray.toList_eq]at j;rw[←oz j];exact s
 ·intro j;exact⟨x,j,beq_self_eq_true _⟩

def bZ (k:Nat)(f:Int):List (Int×List Bool)→List ByteArray→List ByteArray
 |[],met=>met
 |r::rs,met=>bZ k f rs (if r.1=f then(a9 (bd f k r.2 0) (bd f k r.2 0).size).foldl di met else met)

def gn (k:Nat)(rs:List (Int×List Bool)):Nat→Nat
 |0=>0
 |f+1=>gn k rs f+(bZ k ((f+1:Nat):Int) rs []).length

def m9 (k:Nat)(rs:List (Int×List Bool)):Nat:=gn k rs 5

theorem rN (out:List ByteArray)(x y:ByteArray):y∈di out x↔y∈out∨y=x:=by
 unfold di;split
 ·rename_i h;rw[n7]at h;exact⟨.inl,fun j=>by rcases j with j|rfl;exact j;exact h⟩
 ·simp

theorem rO {out:List ByteArray}{x:ByteArray}(h:out.Nodup):(di out x).Nodup:=by
 unfold di;split;·exact h
 ·rename_i q;rw[n7]at q;refine List.nodup_append.2 ⟨h,by simp,fun a s b j e=>?_⟩;rw[List.mem_singleton]at j;subst j;subst e;exact q s

theorem rP (xs:List ByteArray):∀out:List ByteArray,out.Nodup→(xs.foldl di out).Nodup∧∀y,y∈xs.foldl di out↔y∈out∨y∈xs:=by
 induction xs with
 |nil=>intro out h;exact⟨h,fun y=>by simp⟩
 |cons x xs t=>
  intro out h;obtain⟨q,s⟩:=t _ (rO (x:=x) h);refine⟨q,fun y=>?_⟩;rw[List.foldl_cons,s,rN,List.mem_cons];exact⟨fun j=>by rcases j with(j|j)|j;exact .inl j;exact .inr (.inl j);exact .inr (.inr j),fun j=>by rcases j with j|j|j;exact .inl (.inl j);exact .inl (.inr j);exact .inr j⟩

theorem xu (k:Nat)(f:Int):∀(rs:List (Int×List Bool)) (met:List ByteArray),met.Nodup→(bZ k f rs met).Nodup∧∀y,y∈bZ k f rs met↔y∈met∨∃r∈rs,r.1=f∧y∈a9 (bd f k r.2 0) (bd f k r.2 0).size:=by
 intro rs;induction rs with
 |nil=>intro met h;exact⟨h,fun y=>by simp[bZ]⟩
 |cons r rs J=>
  intro met h;unfold bZ;by_cases A:r.1=f
  ·rw[if_pos A];obtain⟨K,L⟩:=rP (a9 (bd f k r.2 0) (bd f k r.2 0).size) met h;obtain⟨E,I⟩:=J _ K;refine⟨E,fun y=>?_⟩;rw[I,L];constructor
   ·rintro((q|q)|⟨z,j,s,t⟩);·exact .inl q
    ·exact .inr ⟨r,by simp,A,q⟩
    ·exact .inr ⟨z,by simp[j],s,t⟩
   ·rintro(q|⟨z,j,s,t⟩);·exact .inl (.inl q)
    ·rcases List.mem_cons.1 j with rfl|j;·exact .inl (.inr t)
     ·exact .inr ⟨z,j,s,t⟩
  ·rw[if_neg A];obtain⟨E,I⟩:=J _ h;refine⟨E,fun y=>?_⟩;rw[I];constructor
   ·rintro(q|⟨z,j,s,t⟩);·exact .inl q
    ·exact .inr ⟨z,by simp[j],s,t⟩
   ·rintro(q|⟨z,j,s,t⟩);·exact .inl q
    ·rcases List.mem_cons.1 j with rfl|j;·exact absurd s A
     ·exact .inr ⟨z,j,s,t⟩

theorem pQ {t A:Type}{g:t→A}:∀{a:List t},a.Nodup→(∀x y,x∈a→y∈a→g x=g y→x=y)→(a.map g).Nodup:=by
 intro a;induction a with
 |nil=>intro _ _;exact List.nodup_nil
 |cons x a A=>
  intro t q;have s:=List.nodup_cons.1 t;refine List.nodup_cons.2 ⟨fun z=>?_,A s.2 (fun y E j t=>q y E (List.mem_cons_of_mem _ j) (List.mem_cons_of_mem _ t))⟩;obtain⟨y,j,t⟩:=List.mem_map.1 z;have:=q y x (List.mem_cons_of_mem _ j) List.mem_cons_self t;subst this;exact s.1 j

theorem xF:∀{a b:List Int},a.Nodup→(∀x,x∈a→x∈b)→a.length≤b.length:=by
 intro a;induction a with
 |nil=>intro b _ _;exact Nat.zero_le _
 |cons x a z=>
  intro b t q;have s:x∈b:=q x (List.mem_cons_self);have j:=List.nodup_cons.1 t
  have t:=z (b:=b.erase x) j.2 (fun y t=>by
   have z:y≠x:=fun e=>j.1 (e ▸ t)
   exact(List.mem_erase_of_ne z).2 (q y (List.mem_cons_of_mem _ t)))
  have j:=List.length_erase_of_mem s;have j:0<b.length:=List.length_pos_of_mem s;rw[List.length_cons];omega

theorem qg {cs:List (Option Rec)}{roots:List Int}{id:Int}:Reaches cs roots id↔∃a∈roots,Reaches cs [a] id:=by
 constructor
 ·intro h;refine h (fun x=>∃a∈roots,Reaches cs [a] x) (fun a j s=>⟨a,j,Reaches.root (by simp) s⟩) (fun x r q s=>?_);obtain⟨a,j,t⟩:=q;have z:=Reaches.closed cs [a] x r t s;exact⟨fun s=>⟨a,j,z.1 s⟩,fun s=>⟨a,j,z.2 s⟩⟩
 ·rintro⟨a,j,t⟩;exact t.mono (fun x q=>by rw[List.mem_singleton]at q;rw[q];exact j)

theorem uR (g:Int→Int):∀j:List Int,(∀x∈j,1≤g x∧g x≤5) →
  j.length=(j.filter (fun x=>g x=1)).length+(j.filter (fun x=>g x=2)).length+(j.filter (fun x=>g x=3)).length+(j.filter (fun x=>g x=4)).length+(j.filter (fun x=>g x=5)).length:=by
 intro j
 induction j with
 |nil=>intro _;rfl
 |cons x j z=>
  intro h;have j:=h x (by simp);have q:=z (fun y t=>h y (by simp[t]));have s:g x=1∨g x=2∨g x=3∨g x=4∨g x=5:=by omega
  rw[List.length_cons,q];rcases s with e|e|e|e|e<;>simp[List.filter_cons,e]<;>omega

def fZ (M:St)(id:Int):Int:=match look M.cs id with|some r=>r.ad|none=>0

structure lq (M:St)(k:Nat)(r:Int×List Bool)(e:Edge):Prop where
 ad:1≤r.1∧r.1≤5
 ev:At r.1 M e 0 (k+1)
 hO:ar r.1 M (k+1) e=bd r.1 k r.2 0

def lu (M:St)(k:Nat)(rs:List (Int×List Bool))(es:List Edge):Prop:=es.length=rs.length∧∀(i:Nat) (r:Int×List Bool) (e:Edge),rs[i]?=some r→es[i]?=some e→lq M k r e

theorem ql {M:St}{k:Nat}{r:Int×List Bool}{e:Edge}(s:cN r.1 M)(h:lq M k r e)(y:List UInt8):y∈(a9 (bd r.1 k r.2 0) (bd r.1 k r.2 0).size).map (fun j=>j.data.toList)↔∃id,Reaches M.cs [e.to] id∧fA r.1 M id=y:=by
 have q:=ye (bd r.1 k r.2 0) (bd r.1 k r.2 0).data.toList 0 rfl (by simp);rw[show(a9 (bd r.1 k r.2 0) 0).map (fun j=>j.data.toList)=[]from rfl]at q;rw[←q,←h.hO];have t:=yy s (k+1) e 0 [] [] h.ev;rw[List.append_nil]at t;rw[show(ar r.1 M (k+1) e).data.toList=aY r.1 M (k+1) e from rfl,t];show y∈(((cY M (k+1) e).map (fA r.1 M)).foldl fV [])↔_;rw[(uU _ [] List.nodup_nil).2 y];simp only[List.not_mem_nil,false_or,List.mem_map];obtain⟨t,-⟩:=mb s (k+1) e 0 h.ev;exact⟨fun⟨x,q,j⟩=>⟨x,(t x).1 q,j⟩,fun⟨x,q,j⟩=>⟨x,(t x).2 q,j⟩⟩

theorem mX {M:St}{k:Nat}{r:Int×List Bool}{e:Edge}(q:cN r.1 M)(h:lq M k r e){id:Int}(s:Reaches M.cs [e.to] id):∃j,look M.cs id=some j∧j.ad=r.1∧0≤j.I:=by
 obtain⟨j,t⟩:=mb q (k+1) e 0 h.ev;exact t id ((j id).2 s)

theorem Af {M:St}(I:∀f,cN f M){k:Nat}{rs:List (Int×List Bool)}{es:List Edge}(h:lu M k rs es):(aN M.cs (es.map Edge.to)).length=m9 k rs:=by
 obtain⟨bi,h⟩:=h
 have any:∀id,id∈aN M.cs (es.map Edge.to)↔∃(i:Nat) (r:Int×List Bool) (e:Edge),rs[i]?=some r∧es[i]?=some e∧Reaches M.cs [e.to] id:=fun id=>by
  rw[eG,qg];constructor
  ·rintro⟨a,aw,q⟩;obtain⟨e,N,rfl⟩:=List.mem_map.1 aw;obtain⟨i,hi⟩:=List.mem_iff_getElem?.1 N;have a2:=(List.getElem?_eq_some_iff.1 hi).1;exact⟨i,rs[i]'(by omega),e,List.getElem?_eq_getElem (by omega),hi,q⟩
  ·rintro⟨i,r,e,J,K,q⟩;exact⟨e.to,List.mem_map.2 ⟨e,List.mem_of_getElem? K,rfl⟩,q⟩
 have form:∀id∈aN M.cs (es.map Edge.to),∃s,look M.cs id=some s∧(1≤s.ad∧s.ad≤5)∧0≤s.I:=fun id hid=>by
  obtain⟨i,r,e,J,K,q⟩:=(any id).1 hid;have z:=h i r e J K;obtain⟨s,t,E,S⟩:=mX (I _) z q;exact⟨s,t,by rw[E];exact z.ad,S⟩
 have one:∀f:Int,((aN M.cs (es.map Edge.to)).filter (fun x=>fZ M x=f)).length=(bZ k f rs []).length:=fun f=>by
  obtain⟨a8,ad⟩:=xu k f rs [] List.nodup_nil
  have a':(((aN M.cs (es.map Edge.to)).filter (fun x=>fZ M x=f)).map (fA f M)).Nodup:=by
   refine pQ ((jI (iV M.cs (es.map Edge.to))).filter _) (fun x y T L a5=>?_);obtain⟨a4,Y⟩:=List.mem_filter.1 T;obtain⟨a6,Z⟩:=List.mem_filter.1 L;obtain⟨s,t,-,S⟩:=form x a4;obtain⟨j,ab,-,a7⟩:=form y a6;simp only[fZ,t,decide_eq_true_eq]at Y;simp only[fZ,ab,decide_eq_true_eq]at Z;exact Bc (I f) t ab Y Z S a7 a5
  have bb:((bZ k f rs []).map (fun j=>j.data.toList)).Nodup:=pQ a8 (fun x y _ _ e=>oz e)
  have am:∀y,y∈((aN M.cs (es.map Edge.to)).filter (fun x=>fZ M x=f)).map (fA f M)↔y∈(bZ k f rs []).map (fun j=>j.data.toList):=fun y=>by
   rw[List.mem_map,List.mem_map];constructor
   ·rintro⟨id,hid,rfl⟩;obtain⟨t,E⟩:=List.mem_filter.1 hid;obtain⟨i,r,e,J,K,q⟩:=(any id).1 t;have z:=h i r e J K;obtain⟨s,U,W,be⟩:=mX (I _) z q;simp only[fZ,U,decide_eq_true_eq]at E;have A:r.1=f:=W.symm.trans E;have a3:=(ql (I _) z (fA f M id)).2 ⟨id,q,by rw[A]⟩;obtain⟨j,O,K⟩:=List.mem_map.1 a3;rw[A]at O;exact⟨j,(ad j).2 (.inr ⟨r,List.mem_of_getElem? J,A,O⟩),K⟩
   ·rintro⟨j,O,rfl⟩;rcases(ad j).1 O with a1|⟨r,q,A,X⟩;·simp at a1
    ·obtain⟨i,hi⟩:=List.mem_iff_getElem?.1 q;have a2:=(List.getElem?_eq_some_iff.1 hi).1;have N:es[i]?=some (es[i]'(by omega)):=List.getElem?_eq_getElem (by omega);have z:=h i r _ hi N;rw[←A]at X;obtain⟨id,av,bg⟩:=(ql (I _) z j.data.toList).1 (List.mem_map.2 ⟨j,X,rfl⟩);obtain⟨s,U,W,be⟩:=mX (I _) z av;refine⟨id,List.mem_filter.2 ⟨(any id).2 ⟨i,r,_,hi,N,av⟩,?_⟩,by rw[←A];exact bg⟩;simp only[fZ,U,decide_eq_true_eq];exact W.trans A
  have j:=pP a' (fun y L=>(am y).1 L);have q:=pP bb (fun y L=>(am y).2 L);rw[List.length_map,List.length_map]at j q;omega
 rw[uR (fZ M) _ (fun x T=>by
  obtain⟨s,t,E,-⟩:=form x T;simp only[fZ,t]
  exact E),one 1,one 2,one 3,one 4,one 5]
 unfold m9;simp only[gn];show _=0+(bZ k 1 rs []).length+(bZ k 2 rs []).length+(bZ k 3 rs []).length+(bZ k 4 rs []).length+(bZ k 5 rs []).length;omega

theorem vC (M:St):∀(n:Nat) (e:Edge),(cY M n e).length≤2 ^ n-1:=by
 intro n;induction n with
 |zero=>intro e;simp[cY]
 |succ n j=>
  intro e;have q:1≤2 ^ n:=Nat.pow_pos (by decide);have q:2 ^ (n+1)=2 ^ n+2 ^ n:=by rw[Nat.pow_succ];omega
  unfold cY;split;·simp
  ·have q:=j (al (look M.cs e.to)).lo;have q:=j (al (look M.cs e.to)).hi;simp only[List.length_append,List.length_cons];omega

theorem yV {M:St}(z:∀f,cN f M){k:Nat}{rs:List (Int×List Bool)}{es:List Edge}(h:lu M k rs es):(aN M.cs (es.map Edge.to)).length≤es.length*(2 ^ (k+1)-1):=by
 have I:∀x,x∈aN M.cs (es.map Edge.to)→x∈es.flatMap (cY M (k+1)):=fun x q=>by
  rw[eG,qg]at q;obtain⟨a,A,E⟩:=q;obtain⟨e,j,rfl⟩:=List.mem_map.1 A;obtain⟨i,hi⟩:=List.mem_iff_getElem?.1 j;have q:=(List.getElem?_eq_some_iff.1 hi).1;have q:=h.2 i (rs[i]'(by have:=h.1;omega)) e (List.getElem?_eq_getElem (by have:=h.1;omega)) hi;exact List.mem_flatMap.2 ⟨e,j,((mb (z _) (k+1) e 0 q.ev).1 x).2 E⟩
 have s:=xF (jI (iV M.cs (es.map Edge.to))) I
 have t:∀l:List Edge,(l.flatMap (cY M (k+1))).length≤l.length*(2 ^ (k+1)-1):=by
  intro l;induction l with
  |nil=>simp
  |cons e l j=>
   have:=vC M (k+1) e;rw[List.flatMap_cons,List.length_append,List.length_cons,Nat.add_mul];omega
 exact Nat.le_trans s (t es)

open Go.ChangeShapes Go.WideShapes Go.ChangeAt Go.RowKit

def nT (w:World)(a:Option Addr)(len:Nat)(ps:List Int):Prop:=ps.length=len∧aL w a ps∧∀x∈ps,(Lit.int .i64 x).wf=true

theorem xR {H:Type}{enc:TypeId×Value→H}{t:World}{I:Nat}{K:Nat→Bool}{held:Bool}{a:Option Addr}{len cap:Nat}{d:DataW H}{p:List MemPlace}
  (h:DataW.Trod enc Tryz.prog t I K held 22 (.slice a len cap) d p):∃ps:List Int,nT t a len ps:=by
 obtain⟨rs,j,q⟩:=pU (k:=1) (fun(r:Int) cs=>(Lit.int .i64 r).wf=true∧cs=[.int .i64 r]) Tryz.underlying22 (by kernel_rfl) (by decide) (fun n cs x s=>by
  obtain⟨r,j,_,q⟩:=DataW.trod_int Tryz.underlying3 s
  exact⟨by rw[j];rfl,r,q,j⟩) h
 refine⟨rs,j,fun i r J=>?_,fun x s=>?_⟩
 ·obtain⟨b,off,cs,z,⟨E,rfl⟩,A⟩:=q i r J;have:=A 0 (by decide);rw[Nat.mul_one,Nat.add_zero]at this;exact⟨b,off,z,this⟩
 ·obtain⟨i,hi⟩:=List.mem_iff_getElem?.1 s;obtain⟨b,off,cs,z,⟨E,rfl⟩,A⟩:=q i x hi;exact E

instance:Inhabited (Int×Edge):=⟨(0,Edge.zero)⟩

def dI (r:Int×Edge):List Value:=[.int .u8 r.1,.int .u8 r.2.tag,.int .u32 r.2.to]

theorem o8:(Tryz.prog.info? 55).map (fun i=>(i.zero,i.size,i.bytes))=some (some (.agg #[.int .u8 0,.int .u8 0,.int .u32 0]),3,12):=by kernel_rfl

theorem gT {w:World}{s:Nat}{e:TypeId}{size:Nat}{v:Value}{n:Nat}{xs:List Value}(h:w.ownsRow s e size v n xs){k:Nat}(j:v.ownBlock=some k):s≤k:=by
 rcases h.2 with⟨q,_⟩|⟨z,s,t,q,A,_⟩
 ·rw[q]at j;simp[Value.ownBlock]at j
 ·rw[q]at j;simp[Value.ownBlock]at j;omega

theorem sN (j:Nat)(v:Int):jk (an (j:Int) v)=(vb j v:Int):=by
 unfold vb;cases an (j:Int) v<;>rfl

theorem uu (a:Option Addr)(cap:Nat)(ps:List Int)(w:World)(h:aL w a ps)(T:ps.length≤16)(L:∀x∈ps,0≤x∧x≤16)(j:Nat)(ab:j≤65535) :
  Calls Tryz.prog 185 #[.slice a ps.length cap,.int .i64 (j:Int)] w fun e Z=>e=.returned (.int .i64 (aP j ps:Int))∧w=Z:=by
 obtain⟨q,z⟩:∃q,q=ps.length:=⟨_,rfl⟩
 rw[←z]at T ⊢
 have H:=Lib.hid h
 have J:=Lib.hid z
 have O:=Lib.hid L
 clear h z L
 go_enter Tryz.func185,Tryz.ntmps185
 go_wp2
 go_loopg [5,6] q (fun gk z L wr=>∃d:Nat,z=.int .i64 (aP j (ps.take d):Int)∧L=.int .i64 (d:Int)∧d+gk=q∧w=wr)
 case atStart=>exact⟨0,by simp[aP],rfl,by omega,rfl⟩
 case round=>
  obtain⟨d,rfl,rfl,ad,rfl⟩:=hrel;obtain⟨y,I⟩:∃y,y=aP j (ps.take d):=⟨_,rfl⟩
  have z:y<65536:=by
   have z:=gG j (ps.take d);have z:2 ^ (ps.take d).length≤2 ^ 16:=Nat.pow_le_pow_right (by decide) (by rw[List.length_take];omega);have z:(2:Nat) ^ 16=65536:=rfl;omega
  rw[←I];have K:=Lib.hid I;clear I;by_cases U:d<q
  ·obtain⟨x,t⟩:∃b,ps[d]?=some b:=⟨_,List.getElem?_eq_getElem (by rw[←J.out];exact U)⟩;obtain⟨b,off,rfl,z⟩:=H.out d x t;have E:=O.out x (List.mem_of_getElem? t);have N:=fO t;have s:=fun(z:World)=>jO (j:Int) x z (by omega) (by omega) E.1 E.2;rw[sN]at s;have Y:=jd j x;obtain⟨u,A⟩:∃u,u=vb j x:=⟨_,rfl⟩;rw[←A]at s Y;have S:=Lib.hid s;have W:Hid (aP j (ps.take (d+1))=2*y+u):=Lib.hid (by rw[N,ur,←K.out,←A]);clear t N s A E;go_wp2_with (first|(go_at_call 43;refine(S.out _).mono ?_;rintro e w1 ⟨rfl,rfl⟩)|fail)
   go_roundg (gk-1)
   case rel=>exact⟨d+1,by rw[W.out];push_cast;rfl,by simp,by omega,rfl⟩
   case measure=>omega
  ·have s:d=q:=(by omega);have X:Hid (aP j ps=y):=Lib.hid (by rw[K.out,List.take_of_length_le (by rw[←J.out];omega)]);clear s;go_wp2_with fail
   go_ret
   exact⟨by rw[X.out];rfl,rfl⟩

theorem ph {M:St}{f:Int}{e:Edge}{l:Int}(t:1≤f∧f≤5)(q:M.leads f e l=true)(j:bE M f e l):gN M f e l=true:=by
 have s:f=1∨f=2∨f=3∨f=4∨f=5:=by omega
 rcases s with rfl|rfl|rfl|rfl|rfl;·exact q
 ·exact q
 ·exact j (.inl rfl)
 ·exact j (.inr (.inl rfl))
 ·exact j (.inr (.inr rfl))

def eZ (M:St):Prop:=∀id r,look M.cs id=some r→0≤r.lo.to∧0≤r.hi.to

theorem uQ {M:St}(t:M.wf)(h:eZ M){j:Rec}(s:0≤j.lo.to∧0≤j.hi.to):eZ (M.a6 j):=by
 unfold St.a6;cases M.b3 j with
 |some id=>exact h
 |none=>
  simp only[];split;·exact h
  ·split;·exact h
   ·intro id r q;rcases(pt t.gone id r).1 q with⟨_,rfl⟩|q
    ·exact s
    ·exact h id r q

theorem Cc {M:St}(z:M.wf)(h:eZ M){f:Int}{e:Edge}{l:Int}(E:M.leads f e l=true)(O:0≤l)(S:l<M.n)(t:0≤e.to)(q:bQ M (af M f e l)=0) :
  0≤(bK M (af M f e l)).to∧0≤(bf M f (af M f e l)).to∧eZ (bN M (af M f e l)):=by
 have J:∀a,a=(.inl (aF f l e):(Edge×Edge×Int) ⊕ Rec)→0≤(bK M a).to∧0≤(bf M f a).to∧eZ (bN M a):=fun a N=>by
  subst N;refine⟨?_,?_,h⟩
  ·show 0≤(aF f l e).1.to;unfold aF;split;·exact t
   ·split<;>exact t
  ·show 0≤(aF f l e).2.1.to;unfold aF;split;·exact t
   ·split<;>exact Int.le_refl _
 obtain⟨A,K⟩:∃A,A=af M f e l:=⟨_,rfl⟩
 rw[←K]at q ⊢
 have j:=K
 unfold af at j
 rw[if_neg (by omega),if_neg (by rw[E];simp)]at j
 split at j
 ·rw[j];exact⟨t,t,h⟩
 ·cases s:look M.cs e.to with
  |none=>
   rw[s]at j;exact J A j
  |some r=>
   rw[s]at j;simp only[]at j;obtain⟨L,I⟩:=h _ _ s;by_cases t:l<r.I
   ·rw[if_pos t]at j;exact J A j
   ·rw[if_neg t]at j;split at j
    ·rw[j]at q ⊢;change M.a7 ⟨r.ad,r.I+1,r.J,r.lo,r.hi⟩=0 at q
     have hid:0≤(aX M 0 ⟨r.ad,r.I+1,r.J,r.lo,r.hi⟩).to:=by
      rw[dR q];show 0≤M.bg _;unfold St.a7 at q;unfold St.bg;cases hi:M.b3 ⟨r.ad,r.I+1,r.J,r.lo,r.hi⟩with
      |some id=>have:=(bI (jy hi)).1;simp only[];omega
      |none=>
       rename_i t;have g:=z.b7 s;have J:r.ad=f:=(dx E s).1;have A:M.bp ⟨r.ad,r.I+1,r.J,r.lo,r.hi⟩=false:=kR g z.br (by have:=(dx E s).2.1;omega) (by rw[J];exact t.1) t.2;have:=(iK z A (by unfold St.a7;rw[hi]at q ⊢;exact q)).2.2.2.1;unfold St.bg at this;rw[hi]at this;omega
     refine⟨hid,?_,uQ z h ⟨L,I⟩⟩;show 0≤(if M.a7 _=0 then(if f=4 then aX M 0 _ else r.hi)else⟨0,0⟩:Edge).to;rw[if_pos q];split;·exact hid
     ·exact I
    ·rw[j];exact⟨L,I,h⟩

theorem zg {f:Int}(t:1≤f∧f≤5):∀(k:Nat) (l:Int) (M:St) (e:Edge),M.wf→M.room=1048576→M.len+((2 ^ k:Nat):Int)≤1048576→0≤e.to→eZ M→M.leads f e l=true→bE M f e l→0≤l→l+(k:Int)=M.n →
  ∃M',au M M'∧M'.wf∧M'.room=1048576∧M'.len+1≤M.len+((2 ^ k:Nat):Int)∧eZ M'∧az f M' k (cz M f e l) l e:=by
 intro k
 induction k with
 |zero=>
  intro l M e q W a7 N O s L E U;have a8:l=M.n:=by simpa using U
  have Z:(M.n-l).toNat=0:=by omega
  refine⟨M,au.refl M,q,W,by show M.len+1≤M.len+((1:Nat):Int);omega,O,?_⟩;by_cases Y:e.to=0
  ·have:=(vd q t t s E Y).own L;rw[Z]at this;exact this
  ·have a':e.ok:=by
    obtain⟨ad,ab⟩:=aU.1 s;obtain⟨bq,br,bs,bt,bv,bw,bb,be⟩:=bj.1 ad
    have bq:e.to<2:=by
     rcases ab with ab|⟨r,a,b,c,d⟩;·exact ab
     ·have g:=q.b7 a;have:=g.tb;have:=g.bn;omega
    refine⟨?_,⟨N,by omega⟩⟩;by_cases ab:f=5
    ·have:=be ab Y;omega
    ·have:=bb (.inl ab);omega
   have:=(u' q t t a' s a8 Y).own L;rw[Z]at this;exact this
 |succ k a2=>
  intro l M e q W a7 N O s L E U;push_cast at U;have a6:2 ^ (k+1)=2 ^ k+2 ^ k:=by rw[Nat.pow_succ];omega
  have ad:0<2 ^ k:=Nat.pow_pos (by decide);have I:l<M.n:=by omega
  have X:bQ M (af M f e l)=0:=by
   by_cases j:bQ M (af M f e l)=0;·exact j
   ·have:=(k8 q s I j).2.2;omega
  have j:=fB q s I X;obtain⟨am,av,aw⟩:=jP q s E I X L rfl rfl rfl;obtain⟨a4,a3,a1⟩:=Cc q O s E I N X;obtain⟨J,K⟩:∃A,A=bN M (af M f e l):=⟨_,rfl⟩;obtain⟨lo,T⟩:∃A,A=bK M (af M f e l):=⟨_,rfl⟩;obtain⟨hi,S⟩:∃A,A=bf M f (af M f e l):=⟨_,rfl⟩;rw[←K,←T,←S]at j am;rw[←K,←T]at av;rw[←K,←S]at aw;rw[←T]at a4;rw[←S]at a3;rw[←K]at a1;have q:=j.ext.n;obtain⟨a5,z,bg,bi,q,bn,bp⟩:=a2 (l+1) J lo j.wf (by rw[j.room];exact W) (by have:=j.len;omega) a4 a1 j.cl av (by omega) (by omega);have q:=z.n;obtain⟨q,s,A,L,O,N,K⟩:=a2 (l+1) a5 hi bg bi (by have:=j.len;omega) a3 bn (z.leads j.ch) (dq z j.wf aw) (by omega) (by omega);refine⟨q,(j.ext.trans z).trans s,A,L,by have:=j.len;omega,N,?_⟩;rw[qS j.wf z (aW.of j.ch)]at K;have A:(J.n-(l+1)).toNat=k:=by omega
  have q:(cz J f lo (l+1)).length=2 ^ k:=by rw[nh,A]
  have L:(cz J f hi (l+1)).length=2 ^ k:=by rw[nh,A]
  rw[qW j E I];refine⟨by rw[List.length_append,q,L,a6],lo,hi,?_,?_,(am.ext z t).ext s t⟩
  ·rw[List.take_left' q];exact az.ext s t _ _ _ _ bp
  ·rw[List.drop_left' q];exact K

theorem ze {f:Int}(E:1≤f∧f≤5){M:St}{e:Edge}{k:Nat}{l:Int}(q:M.wf)(J:M.len+((2 ^ k:Nat):Int)≤1048576)(A:0≤e.to)(I:eZ M)(s:M.leads f e l=true)(L:bE M f e l)(z:0≤l)(K:l+(k:Int)=M.n) :
  ∃M',au M M'∧M'.wf∧M'.room=1048576∧M'.len+1≤M.len+((2 ^ k:Nat):Int)∧eZ M'∧az f M' k (cz M f e l) l e:=by
 have j:=au.bx M
 obtain⟨M',N,O,S,T,U,t⟩:=zg E k l M.bx e q.bx rfl J A I (j.leads s) (dq j q L) z K
 rw[qS q j (aW.of s)]at t
 exact⟨M',j.trans N,O,S,T,U,t⟩

theorem ag.gp {F:Nat→Prop}{w:World}{j:Nat}{M:St}(h:ag F w j M):eZ M:=fun id r j=>by
 have:=h.b1 j;exact⟨this.lo.2.1,this.hi.2.1⟩

theorem oG {ps:List Int}(K:aA ps=true){j q:Nat}(I:j<2 ^ ps.length)(J:q<2 ^ ps.length)(h:aP j ps=aP q ps):j=q:=by
 have key:∀(s:List Int),aP j s=aP q s→∀v∈s,an (j:Int) v=an (q:Int) v:=by
  intro s;induction s with
  |nil=>intro _ v t;cases t
  |cons u s N=>
   intro E v t;have O:=gG j s;have O:=gG q s;change vb j u*2 ^ s.length+aP j s=vb q u*2 ^ s.length+aP q s at E;have s:=jd j u;have s:=jd q u;have z:vb j u=0∨vb j u=1:=(by omega);have A:vb q u=0∨vb q u=1:=by omega
   have e:vb j u=vb q u:=by
    rcases z with z|z<;>rcases A with A|A<;>rw[z,A]at E ⊢<;>omega
   rw[e]at E;rcases List.mem_cons.1 t with rfl|t
   ·unfold vb at e;cases L:an (j:Int) v<;>cases j:an (q:Int) v<;>rw[L,j]at e<;>first|rfl|(exfalso;revert e;decide)
   ·exact N (by omega) v t
 apply Nat.eq_of_testBit_eq;intro j;by_cases q:j<ps.length
 ·have q:(j:Int)∈ps:=(kP.1 K).2.symm.subset (gi.2 ⟨by omega,by omega⟩);have:=key ps h _ q;rwa[jj,jj]at this
 ·rw[Nat.testBit_lt_two_pow (Nat.lt_of_lt_of_le I (Nat.pow_le_pow_right (by decide) (by omega))),Nat.testBit_lt_two_pow (Nat.lt_of_lt_of_le J (Nat.pow_le_pow_right (by decide) (by omega)))]

theorem oH {ps:List Int}(I:aA ps=true){y:Nat}(q:y<2 ^ ps.length):∃j,j<2 ^ ps.length∧aP j ps=y:=by
 have A:((List.range (2 ^ ps.length)).map (fun j=>(aP j ps:Int))).Nodup:=by
  rw[List.nodup_iff_pairwise_ne,List.pairwise_map];refine(List.nodup_iff_pairwise_ne.1 List.nodup_range).imp_of_mem ?_;intro a b q s E t;rw[List.mem_range]at q s;exact E (oG I q s (by omega))
 have J:∀x∈(List.range (2 ^ ps.length)).map (fun j=>(aP j ps:Int)),x∈cC (2 ^ ps.length):=fun x K=>by
  obtain⟨j,_,rfl⟩:=List.mem_map.1 K;have:=gG j ps;exact gi.2 ⟨by omega,by omega⟩
 have q:=mI _ (cC (2 ^ ps.length)) A J (by rw[iU,List.length_map,List.length_range];exact Nat.le_refl _);have z:(y:Int)∈(List.range (2 ^ ps.length)).map (fun j=>(aP j ps:Int)):=q.subset (gi.2 ⟨by omega,by omega⟩);obtain⟨j,q,t⟩:=List.mem_map.1 z;exact⟨j,List.mem_range.1 q,by omega⟩

def gW (w:World)(a:Option Addr)(ts:List Bool):Prop:=∀i b,ts[i]?=some b→∃g off,a=some ⟨g,off,none⟩∧w.cell? ⟨g,off+i,none⟩=some (.bool b)

theorem gW.U {w j:World}{a:Option Addr}{ts:List Bool}(h:gW w a ts)(t:aa w j):gW j a ts:=fun i b q=>by
 obtain⟨g,off,j,s⟩:=h i b q;exact⟨g,off,j,t.cell s⟩

def eY (n:Nat)(ws:List Int):List Bool:=(List.range (2 ^ n)).map (hasB ws)

theorem qz (n:Nat)(ws:List Int):(eY n ws).length=2 ^ n:=by unfold eY;simp

theorem qy {n:Nat}{ws:List Int}{x:Nat}(h:x<2 ^ n):(eY n ws)[x]?=some (hasB ws x):=by
 unfold eY;rw[List.getElem?_map,List.getElem?_range h];rfl

theorem o6:(Tryz.prog.info? 4).map (fun i=>(i.zero,i.size,i.bytes))=some (some (.bool false),1,1):=by kernel_rfl

theorem AH (a0:Option Addr)(cap0:Nat)(ps:List Int)(a2:Option Addr)(bv:Nat)(ts:List Bool)(w:World)(a4:aL w a0 ps)(ad:aA ps=true)(a5:gW w a2 ts)(ab:ts.length=2 ^ ps.length) :
  Calls Tryz.prog 115 #[.slice a0 ps.length cap0,.slice a2 (2 ^ ps.length) bv] w fun e K=>∃B q,e=.returned (.slice (some ⟨B,0,none⟩) (2 ^ ps.length) (2 ^ ps.length))∧bm K B q∧q.length=2 ^ ps.length∧(∀j,j<2 ^ ps.length→q[aP j ps]?=ts[j]?)∧aa w K:=by
 obtain⟨O,bb,-⟩:=dp.1 ad
 have Y:=fun(j:Nat) (E:j≤65535) (A:World) (T:aa w A)=>uu a0 cap0 ps A (a4.U T) O (fun x be=>by have:=bb x be;omega) j E
 have t:=fun(j:Nat)=>gG j ps
 have Z:=fun(j a2:Nat) (E:j<2 ^ ps.length) (bv:a2<2 ^ ps.length) (h:aP j ps=aP a2 ps)=>oG ad E bv h
 have a':2 ^ ps.length≤2 ^ 16:=Nat.pow_le_pow_right (by decide) O
 have a3:(2:Nat) ^ 16=65536:=rfl
 obtain⟨p,am⟩:∃p,p=2 ^ ps.length:=⟨_,rfl⟩
 rw[←am]at ab a' ⊢
 simp only[←am]at t Z
 rw[a3]at a'
 obtain⟨n,a7⟩:∃n,n=ps.length:=⟨_,rfl⟩
 rw[←a7]at Y ⊢
 obtain⟨b2,b0,b3,b4,b5⟩:=info_parts o6
 have bn:=Lib.hid Y
 have bs:=Lib.hid t
 have bp:=Lib.hid Z
 have bt:=Lib.hid a5
 have br:=Lib.hid ab
 clear a4 ad a5 ab O bb Y t Z am a7 a3
 go_enter Tryz.func115,Tryz.ntmps115
 go_wp2_with (first
  |(at_make;refine wpList_make_full _ rfl _ _ 62 rfl w.heap.size 4 b2 (.bool false) 1 Tryz.underlying62 b0 b3 b4 .i64 .i64 (p:Int) (p:Int) p rfl rfl rfl rfl (by rw[b5];omega) (by unfold maxLen;omega) (by simp) ?_;intro w1 a8 s)
  |fail)
 have bg:=Lib.hid (lG a8)
 have a6:aa w w1:=⟨s.os,s.tape,s.output,s.size,fun i hi=>s.block i hi (by simp)⟩
 have bq:=Lib.hid a6
 clear a8 s a6
 go_wp2_with fail
 go_loopg [6] p (fun gk s wr=>∃(x:Nat) (q:List Bool),x+gk=p∧s=.int .i64 (x:Int)∧q.length=p∧bm wr w.heap.size q∧(∀j,j<x→q[aP j ps]?=ts[j]?)∧ae (fun s=>s=w.heap.size) w1 wr)
 case atStart=>exact⟨0,_,by omega,rfl,by simp,bg.out,fun j E=>by omega,ae.refl _ _⟩
 case round=>
  obtain⟨x,q,be,rfl,W,O,Y,s⟩:=hrel;have z:=Lib.hid O;have I:=Lib.hid W;have av:=Lib.hid Y;have N:=Lib.hid s;have Z:=bq.out.new s (fun k ab=>by omega);have L:=Lib.hid Z;clear O W Y s Z;by_cases t:x<p
  ·have a1:=Lib.hid (fun(A:World) (T:aa wr A)=>bn.out x (by omega) A (L.out.trans T));have J:=bs.out x;obtain⟨b,U⟩:∃b,ts[x]?=some b:=⟨_,List.getElem?_eq_getElem (by rw[br.out];exact t)⟩;obtain⟨g,off,rfl,X⟩:=bt.out x b U;have s:=L.out.cell X;have bx:=aD X;dsimp only at bx;obtain⟨D,S⟩:∃D,D=aP x ps:=⟨_,rfl⟩;rw[←S]at a1 J;obtain⟨A,s⟩:∃A,q[D]?=some A:=⟨_,List.getElem?_eq_getElem (by rw[I.out];exact J)⟩;have A:=z.out.cell s;have A:=z.out.frozen D;have A:g≠w.heap.size:=(by omega);have A:w.heap.size≠g:=(by omega);have aw:=Lib.hid S;have bi:=Lib.hid U;have bw:D<p:=J;have W:=z.out.lt;clear U X S s J;go_wp2_with fail
   go_region_held3 (fun K=>K.cell? ⟨g,off+x,none⟩=some (.bool b)) (go_keep) ((go_at_call 185;refine(a1.out _ (by(exact kp))).mono ?_;rintro s s ⟨rfl,rfl⟩))
   all_goals(try go_wp2_with fail)
   all_goals go_roundg (gk-1)
   all_goals(try(show gk-1<gk;omega))
   all_goals refine⟨x+1,q.set D b,by omega,by simp,by rw[List.length_set,I.out],?_,fun j E=>?_,?_⟩
   all_goals first
    |exact(N.out.setCell (p:=⟨w.heap.size,D,none⟩) (.inl rfl) _).drew
    |exact N.out.drew.setCell (p:=⟨w.heap.size,D,none⟩) (.inl rfl) _
    |exact N.out.setCell (p:=⟨w.heap.size,D,none⟩) (.inl rfl) _
    |exact((z.out.set D b).a4 (aa.av ((aa.refl _).drew) (fun _=>False)) (fun h=>h))
    |(by_cases e:j=x
      ·subst e;rw[←aw.out,List.getElem?_set_self (by rw[I.out];exact bw),bi.out]
      ·have A:D≠aP j ps:=fun s=>e (bp.out j x (by omega) t (s.symm.trans aw.out));rw[List.getElem?_set_ne A]
       exact av.out j (by omega))
  ·have b1:x=p:=(by omega);subst b1;go_wp2_with fail
   go_ret
   exact⟨w.heap.size,q,rfl,z.out,I.out,av.out,L.out⟩

theorem AM {ps ws:List Int}{q:List Bool}(t:aA ps=true)(A:q.length=2 ^ ps.length)(h:∀j,j<2 ^ ps.length→q[aP j ps]?=(eY ps.length ws)[j]?):q=bO (hasB ws) ps 0:=by
 apply List.ext_getElem?;intro y;by_cases z:y<2 ^ ps.length
 ·obtain⟨j,s,rfl⟩:=oH t z;rw[h j s,qy s,lF,mM t s]
 ·rw[List.getElem?_eq_none (by omega),List.getElem?_eq_none (by rw[fW];omega)]

theorem wz {w:World}{B:Nat}{j:List Bool}(h:bm w B j):aB w B 0 j:=fun i b j=>by
 rw[Nat.zero_add];exact h.cell j

theorem qY {f:Int}(q:1≤f∧f≤5){k:Nat}(s:k≤6)(j:List Bool)(l:Int):(bd f k j l).size≤1048576:=by
 have s:2 ^ (k+1)≤2 ^ 7:=Nat.pow_le_pow_right (by decide) (by omega);have s:2 ^ k≤2 ^ 6:=Nat.pow_le_pow_right (by decide) (by omega);have s:(2:Nat) ^ 7=128:=rfl;have s:(2:Nat) ^ 6=64:=rfl;have s:=ns k j l;have s:=nz k j l;have s:=nu (k+1) k j l;have s:=nx (k+1) k j l;have s:=ny (k+1) k j l;rcases kj q with rfl|rfl|rfl|rfl|rfl;·show(cc k j l).size≤_;omega
 ·show(cr k j l).size≤_;omega
 ·show(ck (k+1) k j l).size≤_;omega
 ·show(cm (k+1) k j l).size≤_;omega
 ·show(dh (k+1) k j l).size≤_;omega

end Go.Proofs.YtafkamlhimkbmaaGreat
