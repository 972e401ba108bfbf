/-
  A diagram's text behind a sweep, and behind nodes that came in.
-/
import Derived.Test.YtafkamlhimkbmaaGreatPPartsA
import Derived.Test.YtafkamlhimkbmaaGreatPPermO
import Derived.Test.YtafkamlhimkbmaaGreatPSwapU
namespace Go.Proofs.YtafkamlhimkbmaaGreat
set_option maxRecDepth 1000000
set_option maxHeartbeats 8000000
set_option linter.unusedSimpArgs false
set_option linter.unusedVariables false
open Go.RowKit

theorem Cy {f:Int}{M M':St}(q:cP f M){roots:List Int}(E:∀id,Reaches M.cs roots id→look M'.cs id=look M.cs id) :
  ∀(n:Nat) (e:Edge) (l:Int),At f M e l n→(look M.cs e.to≠none→Reaches M.cs roots e.to)→bc f M' n e=bc f M n e:=by
 intro n
 induction n with
 |zero=>intro e l h;obtain⟨m,s⟩:=h.pos q;omega
 |succ n A=>
  intro e l h K;rcases h.cases q with⟨q,s⟩|⟨r,j,_,_,_,_,_,_,_,_,J,I⟩
  ·rw[gA q s,gA q s]
  ·have z:=K (by rw[j];simp);have q:look M'.cs e.to=some r:=(by rw[E _ z,j]);have t:=Reaches.closed M.cs roots e.to r z j;rw[gD j,gD q];unfold dt;rw[A _ _ J t.1,A _ _ I t.2]

theorem Cn {f:Int}{M M':St}{n:Nat}{e:Edge}(h:bc f M' n e=bc f M n e):ay f M' n e=ay f M n e:=by
 apply ByteArray.ext;exact Array.toList_inj.1 h

theorem ag.fa {F:Nat→Prop}{w:World}{j:Nat}{M:St}(h:ag F w j M)(f:Int)(q:M.n≤9):cP f M:=⟨h.wf,fun _ _ j=>⟨(h.b1 j).lo.2.1,(h.b1 j).hi.2.1⟩,q⟩

def dp (out:List ByteArray)(x:ByteArray):List ByteArray:=if out.any (fun j=>j.toList==x.toList)then out else out++[x]

theorem oV {x y:ByteArray}(h:x.data.toList=y.data.toList):x=y:=by
 cases x;cases y;exact congrArg ByteArray.mk (Array.toList_inj.1 h)

theorem oJ (out:List ByteArray)(x:ByteArray):out.any (fun j=>j.toList==x.toList)=true↔x∈out:=by
 rw[List.any_eq_true];constructor
 ·rintro⟨j,s,q⟩;have j:=eq_of_beq q;rw[ByteArray.toList_eq,ByteArray.toList_eq]at j;rw[←oV j];exact s
 ·intro j;exact⟨x,j,beq_self_eq_true _⟩

def cu (k:Nat)(f:Int):List (Int×List Bool)→List ByteArray→List ByteArray
 |[],met=>met
 |r::rs,met=>cu k f rs (if r.1=f then(bd (bj f k r.2 0) (bj f k r.2 0).size).foldl dp met else met)

def fk (k:Nat)(rs:List (Int×List Bool)):Nat→Nat
 |0=>0
 |f+1=>fk k rs f+(cu k ((f+1:Nat):Int) rs []).length

def nX (k:Nat)(rs:List (Int×List Bool)):Nat:=fk k rs 5

theorem sy (out:List ByteArray)(x y:ByteArray):y∈dp out x↔y∈out∨y=x:=by
 unfold dp;split
 ·rename_i h;rw[oJ]at h;exact⟨.inl,fun j=>by rcases j with j|rfl;exact j;exact h⟩
 ·simp

theorem sA {out:List ByteArray}{x:ByteArray}(h:out.Nodup):(dp out x).Nodup:=by
 unfold dp;split;·exact h
 ·rename_i q;rw[oJ]at q;refine List.nodup_append.2 ⟨h,by simp,fun a s b j e=>?_⟩;rw[List.mem_singleton]at j;subst j;subst e;exact q s

theorem sB (xs:List ByteArray):∀out:List ByteArray,out.Nodup→(xs.foldl dp out).Nodup∧∀y,y∈xs.foldl dp out↔y∈out∨y∈xs:=by
 induction xs with
 |nil=>intro out h;exact⟨h,fun y=>by simp⟩
 |cons x xs t=>
  intro out h;obtain⟨q,s⟩:=t _ (sA (x:=x) h);refine⟨q,fun y=>?_⟩;rw[List.foldl_cons,s,sy,List.mem_cons];exact⟨fun j=>by rcases j with(j|j)|j;exact .inl j;exact .inr (.inl j);exact .inr (.inr j),fun j=>by rcases j with j|j|j;exact .inl (.inl j);exact .inl (.inr j);exact .inr j⟩

theorem xS (k:Nat)(f:Int):∀(rs:List (Int×List Bool)) (met:List ByteArray),met.Nodup→(cu k f rs met).Nodup∧∀y,y∈cu k f rs met↔y∈met∨∃r∈rs,r.1=f∧y∈bd (bj f k r.2 0) (bj f k r.2 0).size:=by
 intro rs;induction rs with
 |nil=>intro met h;exact⟨h,fun y=>by simp[cu]⟩
 |cons r rs J=>
  intro met h;unfold cu;by_cases A:r.1=f
  ·rw[if_pos A];obtain⟨K,L⟩:=sB (bd (bj f k r.2 0) (bj f k r.2 0).size) met h;obtain⟨E,I⟩:=J _ K;refine⟨E,fun y=>?_⟩;rw[I,L];constructor
   ·rintro((q|q)|⟨z,j,s,t⟩);·exact .inl q
    ·exact .inr ⟨r,by simp,A,q⟩
    ·exact .inr ⟨z,by simp[j],s,t⟩
   ·rintro(q|⟨z,j,s,t⟩);·exact .inl (.inl q)
    ·rcases List.mem_cons.1 j with rfl|j;·exact .inl (.inr t)
     ·exact .inr ⟨z,j,s,t⟩
  ·rw[if_neg A];obtain⟨E,I⟩:=J _ h;refine⟨E,fun y=>?_⟩;rw[I];constructor
   ·rintro(q|⟨z,j,s,t⟩);·exact .inl q
    ·exact .inr ⟨z,by simp[j],s,t⟩
   ·rintro(q|⟨z,j,s,t⟩);·exact .inl q
    ·rcases List.mem_cons.1 j with rfl|j;·exact absurd s A
     ·exact .inr ⟨z,j,s,t⟩

theorem qn {t A:Type}{g:t→A}:∀{a:List t},a.Nodup→(∀x y,x∈a→y∈a→g x=g y→x=y)→(a.map g).Nodup:=by
 intro a;induction a with
 |nil=>intro _ _;exact List.nodup_nil
 |cons x a A=>
  intro t q;have s:=List.nodup_cons.1 t;refine List.nodup_cons.2 ⟨fun z=>?_,A s.2 (fun y E j t=>q y E (List.mem_cons_of_mem _ j) (List.mem_cons_of_mem _ t))⟩;obtain⟨y,j,t⟩:=List.mem_map.1 z;have:=q y x (List.mem_cons_of_mem _ j) List.mem_cons_self t;subst this;exact s.1 j

theorem ya:∀{a b:List Int},a.Nodup→(∀x,x∈a→x∈b)→a.length≤b.length:=by
 intro a;induction a with
 |nil=>intro b _ _;exact Nat.zero_le _
 |cons x a z=>
  intro b t q;have s:x∈b:=q x (List.mem_cons_self);have j:=List.nodup_cons.1 t
  have t:=z (b:=b.erase x) j.2 (fun y t=>by
   have z:y≠x:=fun e=>j.1 (e ▸ t)
   exact(List.mem_erase_of_ne z).2 (q y (List.mem_cons_of_mem _ t)))
  have j:=List.length_erase_of_mem s;have j:0<b.length:=List.length_pos_of_mem s;rw[List.length_cons];omega

theorem qJ {cs:List (Option Rec)}{roots:List Int}{id:Int}:Reaches cs roots id↔∃a∈roots,Reaches cs [a] id:=by
 constructor
 ·intro h;refine h (fun x=>∃a∈roots,Reaches cs [a] x) (fun a j s=>⟨a,j,Reaches.root (by simp) s⟩) (fun x r q s=>?_);obtain⟨a,j,t⟩:=q;have z:=Reaches.closed cs [a] x r t s;exact⟨fun s=>⟨a,j,z.1 s⟩,fun s=>⟨a,j,z.2 s⟩⟩
 ·rintro⟨a,j,t⟩;exact t.mono (fun x q=>by rw[List.mem_singleton]at q;rw[q];exact j)

theorem vB (g:Int→Int):∀j:List Int,(∀x∈j,1≤g x∧g x≤5) →
  j.length=(j.filter (fun x=>g x=1)).length+(j.filter (fun x=>g x=2)).length+(j.filter (fun x=>g x=3)).length+(j.filter (fun x=>g x=4)).length+(j.filter (fun x=>g x=5)).length:=by
 intro j
 induction j with
 |nil=>intro _;rfl
 |cons x j z=>
  intro h;have j:=h x (by simp);have q:=z (fun y t=>h y (by simp[t]));have s:g x=1∨g x=2∨g x=3∨g x=4∨g x=5:=by omega
  rw[List.length_cons,q];rcases s with e|e|e|e|e<;>simp[List.filter_cons,e]<;>omega

def gq (M:St)(id:Int):Int:=match look M.cs id with|some r=>r.ad|none=>0

structure lN (M:St)(k:Nat)(r:Int×List Bool)(e:Edge):Prop where
 ad:1≤r.1∧r.1≤5
 cj:At r.1 M e 0 (k+1)
 hV:ay r.1 M (k+1) e=bj r.1 k r.2 0

def lO (M:St)(k:Nat)(rs:List (Int×List Bool))(es:List Edge):Prop:=es.length=rs.length∧∀(i:Nat) (r:Int×List Bool) (e:Edge),rs[i]?=some r→es[i]?=some e→lN M k r e

theorem qM {M:St}{k:Nat}{r:Int×List Bool}{e:Edge}(s:cP r.1 M)(h:lN M k r e)(y:List UInt8):y∈(bd (bj r.1 k r.2 0) (bj r.1 k r.2 0).size).map (fun j=>j.data.toList)↔∃id,Reaches M.cs [e.to] id∧fK r.1 M id=y:=by
 have q:=yz (bj r.1 k r.2 0) (bj r.1 k r.2 0).data.toList 0 rfl (by simp);rw[show(bd (bj r.1 k r.2 0) 0).map (fun j=>j.data.toList)=[]from rfl]at q;rw[←q,←h.hV];have t:=yS s (k+1) e 0 [] [] h.cj;rw[List.append_nil]at t;rw[show(ay r.1 M (k+1) e).data.toList=bc r.1 M (k+1) e from rfl,t];show y∈(((dc M (k+1) e).map (fK r.1 M)).foldl gi [])↔_;rw[(vE _ [] List.nodup_nil).2 y];simp only[List.not_mem_nil,false_or,List.mem_map];obtain⟨t,-⟩:=mz s (k+1) e 0 h.cj;exact⟨fun⟨x,q,j⟩=>⟨x,(t x).1 q,j⟩,fun⟨x,q,j⟩=>⟨x,(t x).2 q,j⟩⟩

theorem nM {M:St}{k:Nat}{r:Int×List Bool}{e:Edge}(q:cP r.1 M)(h:lN M k r e){id:Int}(s:Reaches M.cs [e.to] id):∃j,look M.cs id=some j∧j.ad=r.1∧0≤j.I:=by
 obtain⟨j,t⟩:=mz q (k+1) e 0 h.cj;exact t id ((j id).2 s)

theorem AD {M:St}(I:∀f,cP f M){k:Nat}{rs:List (Int×List Bool)}{es:List Edge}(h:lO M k rs es):(aQ M.cs (es.map Edge.to)).length=nX k rs:=by
 obtain⟨bi,h⟩:=h
 have any:∀id,id∈aQ M.cs (es.map Edge.to)↔∃(i:Nat) (r:Int×List Bool) (e:Edge),rs[i]?=some r∧es[i]?=some e∧Reaches M.cs [e.to] id:=fun id=>by
  rw[eL,qJ];constructor
  ·rintro⟨a,aw,q⟩;obtain⟨e,N,rfl⟩:=List.mem_map.1 aw;obtain⟨i,hi⟩:=List.mem_iff_getElem?.1 N;have a2:=(List.getElem?_eq_some_iff.1 hi).1;exact⟨i,rs[i]'(by omega),e,List.getElem?_eq_getElem (by omega),hi,q⟩
  ·rintro⟨i,r,e,J,K,q⟩;exact⟨e.to,List.mem_map.2 ⟨e,List.mem_of_getElem? K,rfl⟩,q⟩
 have form:∀id∈aQ M.cs (es.map Edge.to),∃s,look M.cs id=some s∧(1≤s.ad∧s.ad≤5)∧0≤s.I:=fun id hid=>by
  obtain⟨i,r,e,J,K,q⟩:=(any id).1 hid;have z:=h i r e J K;obtain⟨s,t,E,S⟩:=nM (I _) z q;exact⟨s,t,by rw[E];exact z.ad,S⟩
 have one:∀f:Int,((aQ M.cs (es.map Edge.to)).filter (fun x=>gq M x=f)).length=(cu k f rs []).length:=fun f=>by
  obtain⟨a8,ad⟩:=xS k f rs [] List.nodup_nil
  have a':(((aQ M.cs (es.map Edge.to)).filter (fun x=>gq M x=f)).map (fK f M)).Nodup:=by
   refine qn ((jN (iX M.cs (es.map Edge.to))).filter _) (fun x y T L a5=>?_);obtain⟨a4,Y⟩:=List.mem_filter.1 T;obtain⟨a6,Z⟩:=List.mem_filter.1 L;obtain⟨s,t,-,S⟩:=form x a4;obtain⟨j,ab,-,a7⟩:=form y a6;simp only[gq,t,decide_eq_true_eq]at Y;simp only[gq,ab,decide_eq_true_eq]at Z;exact By (I f) t ab Y Z S a7 a5
  have bb:((cu k f rs []).map (fun j=>j.data.toList)).Nodup:=qn a8 (fun x y _ _ e=>oV e)
  have am:∀y,y∈((aQ M.cs (es.map Edge.to)).filter (fun x=>gq M x=f)).map (fK f M)↔y∈(cu k f rs []).map (fun j=>j.data.toList):=fun y=>by
   rw[List.mem_map,List.mem_map];constructor
   ·rintro⟨id,hid,rfl⟩;obtain⟨t,E⟩:=List.mem_filter.1 hid;obtain⟨i,r,e,J,K,q⟩:=(any id).1 t;have z:=h i r e J K;obtain⟨s,U,W,be⟩:=nM (I _) z q;simp only[gq,U,decide_eq_true_eq]at E;have A:r.1=f:=W.symm.trans E;have a3:=(qM (I _) z (fK f M id)).2 ⟨id,q,by rw[A]⟩;obtain⟨j,O,K⟩:=List.mem_map.1 a3;rw[A]at O;exact⟨j,(ad j).2 (.inr ⟨r,List.mem_of_getElem? J,A,O⟩),K⟩
   ·rintro⟨j,O,rfl⟩;rcases(ad j).1 O with a1|⟨r,q,A,X⟩;·simp at a1
    ·obtain⟨i,hi⟩:=List.mem_iff_getElem?.1 q;have a2:=(List.getElem?_eq_some_iff.1 hi).1;have N:es[i]?=some (es[i]'(by omega)):=List.getElem?_eq_getElem (by omega);have z:=h i r _ hi N;rw[←A]at X;obtain⟨id,av,bg⟩:=(qM (I _) z j.data.toList).1 (List.mem_map.2 ⟨j,X,rfl⟩);obtain⟨s,U,W,be⟩:=nM (I _) z av;refine⟨id,List.mem_filter.2 ⟨(any id).2 ⟨i,r,_,hi,N,av⟩,?_⟩,by rw[←A];exact bg⟩;simp only[gq,U,decide_eq_true_eq];exact W.trans A
  have j:=qm a' (fun y L=>(am y).1 L);have q:=qm bb (fun y L=>(am y).2 L);rw[List.length_map,List.length_map]at j q;omega
 rw[vB (gq M) _ (fun x T=>by
  obtain⟨s,t,E,-⟩:=form x T;simp only[gq,t]
  exact E),one 1,one 2,one 3,one 4,one 5]
 unfold nX;simp only[fk];show _=0+(cu k 1 rs []).length+(cu k 2 rs []).length+(cu k 3 rs []).length+(cu k 4 rs []).length+(cu k 5 rs []).length;omega

theorem we (M:St):∀(n:Nat) (e:Edge),(dc M n e).length≤2 ^ n-1:=by
 intro n;induction n with
 |zero=>intro e;simp[dc]
 |succ n j=>
  intro e;have q:1≤2 ^ n:=Nat.pow_pos (by decide);have q:2 ^ (n+1)=2 ^ n+2 ^ n:=by rw[Nat.pow_succ];omega
  unfold dc;split;·simp
  ·have q:=j (an (look M.cs e.to)).lo;have q:=j (an (look M.cs e.to)).hi;simp only[List.length_append,List.length_cons];omega

theorem zp {M:St}(z:∀f,cP f M){k:Nat}{rs:List (Int×List Bool)}{es:List Edge}(h:lO M k rs es):(aQ M.cs (es.map Edge.to)).length≤es.length*(2 ^ (k+1)-1):=by
 have I:∀x,x∈aQ M.cs (es.map Edge.to)→x∈es.flatMap (dc M (k+1)):=fun x q=>by
  rw[eL,qJ]at q;obtain⟨a,A,E⟩:=q;obtain⟨e,j,rfl⟩:=List.mem_map.1 A;obtain⟨i,hi⟩:=List.mem_iff_getElem?.1 j;have q:=(List.getElem?_eq_some_iff.1 hi).1;have q:=h.2 i (rs[i]'(by have:=h.1;omega)) e (List.getElem?_eq_getElem (by have:=h.1;omega)) hi;exact List.mem_flatMap.2 ⟨e,j,((mz (z _) (k+1) e 0 q.cj).1 x).2 E⟩
 have s:=ya (jN (iX M.cs (es.map Edge.to))) I
 have t:∀l:List Edge,(l.flatMap (dc M (k+1))).length≤l.length*(2 ^ (k+1)-1):=by
  intro l;induction l with
  |nil=>simp
  |cons e l j=>
   have:=we M (k+1) e;rw[List.flatMap_cons,List.length_append,List.length_cons,Nat.add_mul];omega
 exact Nat.le_trans s (t es)

theorem qz (a:Option Addr)(cap:Nat)(ps:List Int)(w:World)(h:aG w a ps)(t:ps.length≤16)(i:Nat)(x:Int)(j:ps[i]?=some x) :
  Calls Tryz.prog 176 #[.slice a ps.length cap,.int .i64 (i:Int)] w fun e w'=>e=.returned (.int .i64 x)∧w=w':=by
 obtain⟨b,off,rfl,q⟩:=h i x j
 have hi:=(List.getElem?_eq_some_iff.1 j).1
 obtain⟨q,s⟩:∃q,q=ps.length:=⟨_,rfl⟩
 rw[←s]at t hi ⊢
 clear h j s
 go_enter Tryz.func176,Tryz.ntmps176
 go_wp2
 go_ret
 exact⟨rfl,rfl⟩

theorem yp {F:Nat→Prop}{w:World}{z:Nat}{ps:List Int}(h:bC F w z ps)(i:Nat)(x:Int)(t:ps[i]?=some x) :
  Calls Tryz.prog 164 #[.pointer (some ⟨z,0,none⟩),.int .i64 (i:Int)] w fun e w'=>e=.returned (.int .i64 x)∧w=w':=by
 obtain⟨z,E,J,I,A,q,hi⟩:=h.cells
 have j:=Lib.hid (qz z E ps w hi h.le i x t)
 obtain⟨n,s⟩:∃n,n=ps.length:=⟨_,rfl⟩
 rw[←s]at A q j
 clear h q hi s t
 go_enter Tryz.func164,Tryz.ntmps164
 go_wp2_with (first|(go_at_call 176;refine j.out.mono ?_;rintro e w1 ⟨rfl,rfl⟩)|fail)
 go_ret
 exact⟨rfl,rfl⟩

theorem yn {F:Nat→Prop}{w:World}{q:Nat}{ps:List Int}(h:bC F w q ps)(i v:Nat)(J:ps[i]?=some (v:Int)) :
  Calls Tryz.prog 108 #[.pointer (some ⟨q,0,none⟩),.int .i64 (v:Int)] w fun e w'=>e=.returned (.int .i64 (i:Int))∧w=w':=by
 have E:=h.le
 obtain⟨⟨T,U,L,K,qs,z,j,O,A,S⟩,_⟩:=h
 have N:w.cell? ⟨q,1,none⟩=some (.slice (some ⟨L,0,none⟩) ps.length K):=by rw[cell_of_row w q 1 _ _ _ z];rfl
 have t:=j.2 i v J
 rw[Int.toNat_natCast]at t
 have s:=Lib.hid (qz (some ⟨L,0,none⟩) K qs w A.ea (by rw[j.1];exact E) v (i:Int) t)
 rw[j.1]at s
 obtain⟨n,I⟩:∃n,n=ps.length:=⟨_,rfl⟩
 rw[←I]at N s
 clear z j O A S I J t E
 go_enter Tryz.func108,Tryz.ntmps108
 go_wp2_with (first|(go_at_call 176;refine s.out.mono ?_;rintro e w1 ⟨rfl,rfl⟩)|fail)
 go_ret
 exact⟨rfl,rfl⟩

theorem AI (room:Int)(a:Option Addr)(cap:Nat)(ps:List Int)(w:World)(h:aG w a ps)(A:ar ps=true)(T:0≤room)(U:room≤1048576) :
  Calls Tryz.prog 44 #[.int .i64 room,.slice a ps.length cap] w fun e w'=>∃q j F Fo,e=.returned (.tuple #[.pointer (some ⟨q,0,none⟩),.pointer (some ⟨j,0,none⟩),.bool true])∧aa w w'∧ag F w' q (St.new (ps.length:Int) room)∧bC Fo w' j ps∧(∀k,F k→¬Fo k)∧(∀k,F k→w.heap.size≤k)∧(∀k,Fo k→w.heap.size≤k):=by
 have X:=(dm.1 A).1
 have t:=fun(s:World) (W:aa w s)=>yq a cap ps s (h.U W) (by omega)
 have hS:=fun(s:World)=>AO (ps.length:Int) room s (by omega) (by omega) T U
 simp only[A,if_true]at t
 obtain⟨s,J⟩:∃s,s=ps.length:=⟨_,rfl⟩
 rw[←J]at t hS X ⊢
 have N:=Lib.hid t
 have S:=Lib.hid hS
 clear t hS h A J
 go_enter Tryz.func44,Tryz.ntmps44
 go_wp2_with (first|(go_at_call 68;refine(S.out _).mono ?_;rintro e w1 ⟨q,F,rfl,z,hF,K⟩)|fail)
 refine(N.out _ z).mono ?_
 rintro e s ⟨L,j,Fo,rfl,s,I⟩
 have E:=Lib.hid K
 have O:=Lib.hid s
 clear K s
 go_wp2_with fail
 refine bodyPost_ret (v:=.tuple #[.pointer (some ⟨q,0,none⟩),.pointer (some ⟨j,0,none⟩),.bool true]) (by simp[results,Tryz.results44,go_sem]) rfl ⟨q,j,F,Fo,rfl,z.trans L,E.out.U L,O.out,fun k s t=>?_,hF,fun k s=>?_⟩
 ·have:=E.out.lt k s;have:=I k t;omega
 ·have:=I k s;have:=z.size;omega

theorem tT {F Fo:Nat→Prop}{w:World}{s q:Nat}{M:St}{ps:List Int}(h:ag F w s M)(z:bC Fo w q ps)(J:M.n=(ps.length:Int))(f:Int)(I:bG f=true) :
  Calls Tryz.prog 96 #[.pointer (some ⟨s,0,none⟩),.pointer (some ⟨q,0,none⟩),.int .u8 f] w fun e w'=>e=.returned (.int .u8 0)∧aa w w':=by
 have j:=Lib.hid (fun(q:World) (s:aa w q)=>dw (h.U s))
 have A:=Lib.hid (fun(q:World) (s:aa w q)=>kW (z.U s))
 have t:=ik f
 rw[I]at t
 have K:=Lib.hid t
 rw[J]at j
 have L:=z.le
 obtain⟨q,E⟩:∃q,q=ps.length:=⟨_,rfl⟩
 rw[←E]at j A L
 clear h z J t I E
 go_enter Tryz.func96,Tryz.ntmps96
 go_wp2_with (first|(go_at_call 48;refine(j.out _ (by(exact kp))).mono ?_;rintro e w1 ⟨rfl,rfl⟩)|(go_at_call 99;refine(A.out _ (by(exact kp))).mono ?_;rintro e w1 ⟨rfl,rfl⟩)|(go_at_call 100;refine(K.out _).mono ?_;rintro e w1 ⟨rfl,rfl⟩)|fail)
 go_ret
 exact⟨rfl,by(exact kp)⟩

theorem Cz {f:Int}{M M':St}(q:az M M')(hF:cP f M){n:Nat}{e:Edge}{l:Int}(h:At f M e l n):ay f M' n e=ay f M n e:=
 Cn (Cy hF (roots:=[e.to]) (fun id hid=>by
  cases j:look M.cs id with
  |none=>exact absurd j hid.some
  |some r=>exact q.sub _ _ j) n e l h (fun s=>Reaches.root (by simp) s))

theorem qL {f:Int}(j:1≤f∧f≤5){M:St}(hF:cP f M){k:Nat}{x:Edge}(q:M.leads f x 0=true)(E:bH M f x 0)(s:0≤x.to)(z:fo M)(t:M.n=(k:Int))(A:M.len+((2 ^ k:Nat):Int)≤1048576):ay f M (k+1) x=bj f k (cF M f x 0) 0:=by
 obtain⟨M',t,I,K,L,N,J⟩:=zC (k:=k) j hF.wf A s z q E (Int.le_refl _) (by omega);have z:=B1 I j J (by rw[t.n];omega) (Int.le_refl _) k (Nat.le_refl _);rw[←z];exact(Cz t hF (l:=0) ⟨q,s,by push_cast;omega⟩).symm

def iN (n:Nat)(has:Nat→Bool):List Bool:=(List.range (2 ^ n)).map has

theorem pk {n:Nat}{has:Nat→Bool}{j:Nat}(h:j<2 ^ n):(iN n has)[j]?=some (has j):=by
 unfold iN;rw[List.getElem?_map,List.getElem?_range h];rfl

theorem A4 {M:St}{f:Int}{ps:List Int}{x:Edge}{has:Nat→Bool}(t:ar ps=true)(s:M.n=(ps.length:Int))(h:cF M f x 0=bR has ps 0):tabP M ps f x=iN ps.length has:=by
 apply List.ext_getElem?;intro q;by_cases j:q<2 ^ ps.length;·rw[rJ j,←rF s,h,lY,nd t j,pk j]
 ·rw[List.getElem?_eq_none (by rw[A5];omega),List.getElem?_eq_none (by unfold iN;simp;omega)]

theorem rI {M:St}{f:Int}{ps:List Int}{x:Edge}{has:Nat→Bool}(s:ar ps=true)(t:M.n=(ps.length:Int))(h:tabP M ps f x=iN ps.length has):cF M f x 0=bR has ps 0:=by
 apply List.ext_getElem?;intro y;have A:(cF M f x 0).length=2 ^ ps.length:=by rw[nZ];congr 1;omega
 by_cases q:y<2 ^ ps.length
 ·obtain⟨z,j,rfl⟩:=o5 s q;have q:=rJ (M:=M) (f:=f) (e:=x) j;rw[h,pk j]at q;rw[rF t,←q,lY,nd s j]
 ·rw[List.getElem?_eq_none (by omega),List.getElem?_eq_none (by rw[gl];omega)]

theorem wZ {w:World}{B:Nat}{j:List Bool}(h:bu w B j):aE w B 0 j:=fun i b j=>by
 rw[Nat.zero_add];exact h.cell j

theorem rN {f:Int}(q:1≤f∧f≤5){k:Nat}(s:k≤6)(j:List Bool)(l:Int):(bj f k j l).size≤1048576:=by
 have s:2 ^ (k+1)≤2 ^ 7:=Nat.pow_le_pow_right (by decide) (by omega);have s:2 ^ k≤2 ^ 6:=Nat.pow_le_pow_right (by decide) (by omega);have s:(2:Nat) ^ 7=128:=rfl;have s:(2:Nat) ^ 6=64:=rfl;have s:=og k j l;have s:=oq k j l;have s:=oh (k+1) k j l;have s:=om (k+1) k j l;have s:=oo (k+1) k j l;rcases kx q with rfl|rfl|rfl|rfl|rfl;·show(cw k j l).size≤_;omega
 ·show(cB k j l).size≤_;omega
 ·show(cz (k+1) k j l).size≤_;omega
 ·show(cA (k+1) k j l).size≤_;omega
 ·show(dn (k+1) k j l).size≤_;omega

end Go.Proofs.YtafkamlhimkbmaaGreat
