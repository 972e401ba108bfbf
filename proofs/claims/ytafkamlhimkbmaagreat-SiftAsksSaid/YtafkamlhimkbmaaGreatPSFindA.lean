/-
  How a store lies in memory; the walks of its small functions.
-/
import Derived.Test.YtafkamlhimkbmaaGreatPIPut
namespace Go.Proofs.YtafkamlhimkbmaaGreat
set_option maxRecDepth 1000000
set_option maxHeartbeats 8000000
set_option linter.unusedSimpArgs false
set_option linter.unusedVariables false
open Go.RowKit
structure ak (F:Nat→Prop)(w:World)(sb:Nat)(M:St):Prop where
 h8:∃ab ib ts Fa Fi,w.heap[sb]?=some (.cells #[.int .i64 M.n,.pointer (some ⟨ab,0,none⟩),.pointer (some ⟨ib,0,none⟩)] 132 (0,0)) ∧
  dy Fa w ab M.cs M.gone M.len M.room∧dI Fi w ib ts M.len∧M.len=(occ ts:Int)∧(∀r id,ao.has ts r id↔look M.cs id=some r) ∧
  (∀k,Fa k→F k)∧(∀k,Fi k→F k)∧(∀k,Fa k→¬Fi k)∧¬Fa sb∧¬Fi sb
 own:F sb
 lt:∀k,F k→k<w.heap.size
 wf:M.wf
theorem ak.a4 {F G:Nat→Prop}{w j:World}{sb:Nat}{M:St}(h:ak F w sb M)(q:af G w j)(s:∀k,F k→¬G k):ak F j sb M:=by
 obtain⟨⟨L,ib,ts,E,I,z,N,O,S,T,A,B,U⟩,t,a2,J⟩:=h;exact⟨⟨L,ib,ts,E,I,(q.block sb (aM z) (s _ t)).trans z,N.a4 q (fun k j=>s _ (A k j)),O.a4 q (fun k j=>s _ (B k j)),S,T,A,B,U⟩,t,fun k j=>bI (a2 k j) q.size,J⟩
theorem ak.ad {F:Nat→Prop}{w j:World}{sb:Nat}{M:St}(h:ak F w sb M)(q:ae w j):ak F j sb M:=
 h.a4 (q.av (fun _=>False)) (fun _ _ h=>h)
theorem ak.b3 {F:Nat→Prop}{w:World}{sb:Nat}{M:St}(h:ak F w sb M):M.b3:=h.wf.b3
theorem ak.b0 {F:Nat→Prop}{w:World}{sb:Nat}{M:St}(h:ak F w sb M){id:Int}{r:Rec}(s:look M.cs id=some r):r.ok:=by
 obtain⟨⟨z,ib,ts,q,t,A,j,_⟩,_⟩:=h;obtain⟨_,_,q⟩:=ck s;exact j.b0 r (bB q)
theorem Rec.hq:Rec.zero.ok:=⟨by decide,by decide,by decide,⟨by decide,by decide⟩,⟨by decide,by decide⟩⟩
theorem ak.g' {F:Nat→Prop}{w:World}{sb:Nat}{M:St}(h:ak F w sb M)(id:Int):(aA (look M.cs id)).ok:=by
 cases j:look M.cs id with
 |none=>exact Rec.hq
 |some r=>exact h.b0 j
theorem pH {F:Nat→Prop}{w:World}{sb:Nat}{M:St}(h:ak F w sb M) :
  Calls Tryz.prog 21 #[.pointer (some ⟨sb,0,none⟩)] w fun e w'=>e=.returned (.int .i64 M.len)∧w=w':=by
 obtain⟨⟨s,ib,ts,t,z,j,q,-⟩,-⟩:=h
 have t:w.cell? ⟨sb,1,none⟩=some (.pointer (some ⟨s,0,none⟩)):=by rw[cell_of_row w sb 1 _ _ _ j];rfl
 have H:=aa (uY q)
 clear j q
 go_enter Tryz.func21,Tryz.ntmps21
 go_wp2_with (go_at_call 65;refine H.out.mono ?_;rintro e w' ⟨rfl,rfl⟩)
 go_ret
 exact⟨rfl,rfl⟩
theorem Dc {F:Nat→Prop}{w:World}{sb:Nat}{M:St}(h:ak F w sb M) :
  Calls Tryz.prog 89 #[.pointer (some ⟨sb,0,none⟩)] w fun e w'=>e=.returned (.int .i64 M.room)∧w=w':=by
 obtain⟨⟨s,ib,ts,t,z,j,q,-⟩,-⟩:=h
 have t:w.cell? ⟨sb,1,none⟩=some (.pointer (some ⟨s,0,none⟩)):=by rw[cell_of_row w sb 1 _ _ _ j];rfl
 have H:=aa (ve q)
 clear j q
 go_enter Tryz.func89,Tryz.ntmps89
 go_wp2_with (go_at_call 145;refine H.out.mono ?_;rintro e w' ⟨rfl,rfl⟩)
 go_ret
 exact⟨rfl,rfl⟩
theorem dw {F:Nat→Prop}{w:World}{sb:Nat}{M:St}(h:ak F w sb M) :
  Calls Tryz.prog 48 #[.pointer (some ⟨sb,0,none⟩)] w fun e w'=>e=.returned (.int .i64 M.n)∧w=w':=by
 obtain⟨⟨z,ib,ts,s,t,j,q,-⟩,-⟩:=h
 have s:w.cell? ⟨sb,0,none⟩=some (.int .i64 M.n):=by rw[cell_of_row w sb 0 _ _ _ j];rfl
 clear j q
 go_enter Tryz.func48,Tryz.ntmps48
 go_wp2
 go_ret
 exact⟨rfl,rfl⟩
theorem gI {F:Nat→Prop}{w:World}{sb:Nat}{M:St}(h:ak F w sb M)(id:Int)(hid:id≤4294967295) :
  Calls Tryz.prog 78 #[.pointer (some ⟨sb,0,none⟩),.int .u32 id] w fun e w'=>
   e=.returned (.tuple #[.agg #[.int .u8 (aA (look M.cs id)).al,.int .u8 (aA (look M.cs id)).I,.int .u8 (aA (look M.cs id)).J,.int .u8 (aA (look M.cs id)).lo.tag,.int .u32 (aA (look M.cs id)).lo.to,.int .u8 (aA (look M.cs id)).hi.tag,.int .u32 (aA (look M.cs id)).hi.to],.bool (jy (look M.cs id))])∧ae w w':=by
 obtain⟨⟨z,ib,ts,S,T,j,s,-⟩,-⟩:=h
 have S:w.cell? ⟨sb,1,none⟩=some (.pointer (some ⟨z,0,none⟩)):=by rw[cell_of_row w sb 1 _ _ _ j];rfl
 have z:=aM j
 have H:=aa s
 clear j s
 go_enter Tryz.func78,Tryz.ntmps78
 go_wp2_with (go_at_call 133;refine(nN (H.out.ad kp) id hid).mono ?_;rintro e w1 ⟨rfl,q⟩;obtain⟨B,E,I,J,L,N,O⟩:=dL (w:=w) (w1:=w1) q;have t:ae w w1:=kp;obtain⟨j,s⟩:=q.cells;obtain⟨j,s⟩:=t.cells;have A:=q.size;(try simp only[ai,World.cx,World.a5,au]at A);have j:=t.size;have j:w.heap.size<w1.heap.size:=(by omega))
 refine aq (v:=.tuple #[.agg #[.int .u8 (aA (look M.cs id)).al,.int .u8 (aA (look M.cs id)).I,.int .u8 (aA (look M.cs id)).J,.int .u8 (aA (look M.cs id)).lo.tag,.int .u32 (aA (look M.cs id)).lo.to,.int .u8 (aA (look M.cs id)).hi.tag,.int .u32 (aA (look M.cs id)).hi.to],.bool (jy (look M.cs id))]) (by simp[results,Tryz.results78,go_sem,B,E,I,J,L,N,O]) rfl ⟨rfl,kp⟩
theorem Db {F:Nat→Prop}{w:World}{sb:Nat}{M:St}(h:ak F w sb M)(r:Rec)(L:r.ok) :
  Calls Tryz.prog 90 #[.pointer (some ⟨sb,0,none⟩),.agg #[.int .u8 r.al,.int .u8 r.I,.int .u8 r.J,.int .u8 r.lo.tag,.int .u32 r.lo.to,.int .u8 r.hi.tag,.int .u32 r.hi.to]] w fun e w'=>
   e=.returned (.tuple #[.int .u32 ((M.bD r).getD 0),.bool (M.bD r).isSome])∧ae w w':=by
 have E:∀id,look M.cs id=some r↔M.bD r=some id:=fun id=>jf h.b3 r id
 obtain⟨⟨O,ib,ts,j,A,q,I,s,J,t,-⟩,-⟩:=h
 have j:w.cell? ⟨sb,2,none⟩=some (.pointer (some ⟨ib,0,none⟩)):=by rw[cell_of_row w sb 2 _ _ _ q];rfl
 have j:=aM q
 have A:∀j,ae w j→Calls Tryz.prog 135 #[.pointer (some ⟨ib,0,none⟩),.agg #[.int .u8 r.al,.int .u8 r.I,.int .u8 r.J,.int .u8 r.lo.tag,.int .u32 r.lo.to,.int .u8 r.hi.tag,.int .u32 r.hi.to]] j fun e w'=>e=.returned (.tuple #[.int .u32 ((M.bD r).getD 0),.bool (M.bD r).isSome])∧ae j w':=
  fun j j=>rr (s.ad j) r L (M.bD r) (fun id=>(t r id).trans (E id))
 have H:=aa A
 clear q I s J t E A
 generalize (M.bD r).getD 0=a at *
 generalize (M.bD r).isSome=b at *
 go_enter Tryz.func90,Tryz.ntmps90
 go_wp2
 go_region_held3 (fun w'=>w'.cell? ⟨sb,2,none⟩=some (.pointer (some ⟨ib,0,none⟩))∧(w'.cell? ⟨w.heap.size,0,none⟩=some (.int .u8 r.al)∧w'.cell? ⟨w.heap.size,1,none⟩=some (.int .u8 r.I)∧w'.cell? ⟨w.heap.size,2,none⟩=some (.int .u8 r.J)∧w'.cell? ⟨w.heap.size,3,none⟩=some (.int .u8 r.lo.tag)∧w'.cell? ⟨w.heap.size,4,none⟩=some (.int .u32 r.lo.to)∧w'.cell? ⟨w.heap.size,5,none⟩=some (.int .u8 r.hi.tag)∧w'.cell? ⟨w.heap.size,6,none⟩=some (.int .u32 r.hi.to))) (go_keep) ((first|(go_at_call 135;refine(H.out _ kp).mono ?_;rintro e w1 ⟨rfl,z⟩;obtain⟨j,q,s,t,A,E,I⟩:=dL (w:=w) (w1:=w1) (show ae (w.alloc (.cells #[.int .u8 r.al,.int .u8 r.I,.int .u8 r.J,.int .u8 r.lo.tag,.int .u32 r.lo.to,.int .u8 r.hi.tag,.int .u32 r.hi.to] 134)) w1 from kp);have B:ae w w1:=kp;obtain⟨j,q⟩:=z.cells;obtain⟨j,q⟩:=B.cells;have N:=z.size;(try simp only[ai,World.cx,World.a5,au]at N);have j:=B.size;have j:w.heap.size<w1.heap.size:=(by omega))))
 go_outline
 all_goals(go_wp2;go_ret2;exact⟨rfl,kp⟩)
theorem zh (M:St)(f:Int)(e:Edge)(l:Int)(q:dE f e l M.n=true)(j:¬e.to<2) :
  M.leads f e l=(jy (look M.cs e.to)&&(aA (look M.cs e.to)).al==f&&decide (l≤(aA (look M.cs e.to)).I)&&decide (e.tag≤(aA (look M.cs e.to)).I)):=by
 unfold St.leads
 rw[q]
 simp only[Bool.true_and,aY j,Bool.false_or]
 cases look M.cs e.to with
 |none=>rfl
 |some r=>show _=(true&&_&&_&&_);simp only[Bool.true_and];rfl
theorem zi (sb J:Nat)(f j a l n:Int)(x:Rec)(b:Bool)(w:World)(ab:0≤j)(ad:j≤255)(Z:x.ok)
  (t:w.cell? ⟨sb,0,none⟩=some (.int .i64 n)) (B:w.cell? ⟨sb,1,none⟩=some (.pointer (some ⟨J,0,none⟩)))
  (W:∀I,ae w I→Calls Tryz.prog 133 #[.pointer (some ⟨J,0,none⟩),.int .u32 a] I fun e w'=>e=.returned (.tuple #[.agg #[.int .u8 x.al,.int .u8 x.I,.int .u8 x.J,.int .u8 x.lo.tag,.int .u32 x.lo.to,.int .u8 x.hi.tag,.int .u32 x.hi.to],.bool b])∧ae I w') :
  Calls Tryz.prog 134 #[.pointer (some ⟨sb,0,none⟩),.int .u8 f,.agg #[.int .u8 j,.int .u32 a],.int .i64 l] w fun e w'=>
   e=.returned (.bool (dE f ⟨j,a⟩ l n&&(decide (a<2)||(b&&x.al==f&&decide (l≤x.I)&&decide (j≤x.I)))))∧ae w w':=by
 have I:sb<w.heap.size:=aB t
 obtain⟨I,⟨am,av⟩,ab,ad,al⟩:=Z
 have H:=aa W
 clear W I ab ad al
 have I:w.heap.size+1≠sb:=by omega
 cases I:dE f ⟨j,a⟩ l n with
 |false=>
  go_enter Tryz.func134,Tryz.ntmps134;go_wp2_with fail;go_region_held3 (fun w'=>w'.cell? ⟨sb,0,none⟩=some (.int .i64 n)∧w'.cell? ⟨w.heap.size,0,none⟩=some (.int .u8 j)∧w'.cell? ⟨w.heap.size,1,none⟩=some (.int .u32 a)) (go_keep) ((first|(go_at_call 199;refine(mJ _ _ _ _ _ _ (by omega) (by omega)).mono ?_;rintro O w1 ⟨rfl,z⟩;have q:ae (w.alloc (.cells #[.int .u8 j,.int .u32 a] 52)) w1:=kp;have S:w1.cell? ⟨w.heap.size,0,none⟩=some (.int .u8 j):=q.cell (by simp);have T:w1.cell? ⟨w.heap.size,1,none⟩=some (.int .u32 a):=q.cell (by simp);have s:ae w w1:=(((ae.refl _).alloc _).trans q);have A:=q.size;simp only[ai]at A;have L:=s.cell t;have N:=s.cell B)))
  all_goals(go_wp2;go_ret;exact⟨rfl,kp⟩)
 |true=>
  by_cases X:a<2
  ·go_enter Tryz.func134,Tryz.ntmps134;go_wp2_with fail;go_region_held3 (fun w'=>w'.cell? ⟨sb,0,none⟩=some (.int .i64 n)∧w'.cell? ⟨w.heap.size,0,none⟩=some (.int .u8 j)∧w'.cell? ⟨w.heap.size,1,none⟩=some (.int .u32 a)) (go_keep) ((first|(go_at_call 199;refine(mJ _ _ _ _ _ _ (by omega) (by omega)).mono ?_;rintro O w1 ⟨rfl,z⟩;have q:ae (w.alloc (.cells #[.int .u8 j,.int .u32 a] 52)) w1:=kp;have S:w1.cell? ⟨w.heap.size,0,none⟩=some (.int .u8 j):=q.cell (by simp);have T:w1.cell? ⟨w.heap.size,1,none⟩=some (.int .u32 a):=q.cell (by simp);have s:ae w w1:=(((ae.refl _).alloc _).trans q);have A:=q.size;simp only[ai]at A;have L:=s.cell t;have N:=s.cell B)))
   all_goals(go_wp2;go_ret;exact⟨by simp[X],kp⟩)
  ·go_enter Tryz.func134,Tryz.ntmps134;go_wp2_with fail;go_region_held3 (fun w'=>w'.cell? ⟨sb,0,none⟩=some (.int .i64 n)∧w'.cell? ⟨w.heap.size,0,none⟩=some (.int .u8 j)∧w'.cell? ⟨w.heap.size,1,none⟩=some (.int .u32 a)) (go_keep) ((first|(go_at_call 199;refine(mJ _ _ _ _ _ _ (by omega) (by omega)).mono ?_;rintro O w1 ⟨rfl,z⟩;have q:ae (w.alloc (.cells #[.int .u8 j,.int .u32 a] 52)) w1:=kp;have S:w1.cell? ⟨w.heap.size,0,none⟩=some (.int .u8 j):=q.cell (by simp);have T:w1.cell? ⟨w.heap.size,1,none⟩=some (.int .u32 a):=q.cell (by simp);have s:ae w w1:=(((ae.refl _).alloc _).trans q);have A:=q.size;simp only[ai]at A;have L:=s.cell t;have N:=s.cell B)))
   go_wp2;have A:sb<w1.heap.size:=(by omega);have A:w1.heap.size≠sb:=(by omega);have A:w1.heap.size≠w.heap.size:=(by omega);have U:=aa s;clear z s t B q L;go_region_held3 (fun w'=>w'.cell? ⟨sb,1,none⟩=some (.pointer (some ⟨J,0,none⟩))∧w'.cell? ⟨w.heap.size,0,none⟩=some (.int .u8 j)∧w'.cell? ⟨w.heap.size,1,none⟩=some (.int .u32 a)) (go_keep) ((first|(go_at_call 133;have Y:=U.out;refine(H.out _ kp).mono ?_;rintro O E ⟨rfl,z⟩;obtain⟨j,q⟩:=z.cells;have j:ae w1 E:=kp;have q:=j.cell S;have q:=j.cell T;have q:=j.cell N;have q:=j.size;have j:E.heap.size≠sb:=(by omega);have j:E.heap.size≠w.heap.size:=(by omega);have j:w.heap.size<E.heap.size:=(by omega))))
   all_goals go_wp2
   all_goals(go_ret;have Y:=U.out;refine⟨?_,kp⟩)
   all_goals simp_all
   all_goals(try omega)
theorem dF {F:Nat→Prop}{w:World}{sb:Nat}{M:St}(h:ak F w sb M)(f:Int)(e:Edge)(l:Int)(q:e.ok) :
  Calls Tryz.prog 134 #[.pointer (some ⟨sb,0,none⟩),.int .u8 f,.agg #[.int .u8 e.tag,.int .u32 e.to],.int .i64 l] w fun r w'=>r=.returned (.bool (M.leads f e l))∧ae w w':=by
 have E:=h.g' e.to
 obtain⟨⟨t,ib,ts,I,J,z,j,-⟩,-⟩:=h
 have A:w.cell? ⟨sb,0,none⟩=some (.int .i64 M.n):=by rw[cell_of_row w sb 0 _ _ _ z];rfl
 have B:w.cell? ⟨sb,1,none⟩=some (.pointer (some ⟨t,0,none⟩)):=by rw[cell_of_row w sb 1 _ _ _ z];rfl
 refine(zi sb t f e.tag e.to l M.n (aA (look M.cs e.to)) (jy (look M.cs e.to)) w q.1.1 q.1.2 E A B (fun t t=>nN (j.ad t) e.to q.2.2)).mono ?_
 rintro r w' ⟨rfl,q⟩
 refine⟨?_,q⟩
 congr 2
 cases s:dE f e l M.n with
 |false=>simp[St.leads,s]
 |true=>
  by_cases j:e.to<2;·simp[St.leads,s,j]
  ·rw[zh M f e l s j];simp[j]
theorem af.cell {F:Nat→Prop}{w w':World}(h:af F w w'){a:Addr}{v:Value}(q:¬F a.block)(j:w.cell? a=some v):w'.cell? a=some v:=
 (World.cell?_of_block (h.block a.block (aB j) q)).trans j
theorem af.frozen {F:Nat→Prop}{w w':World}(h:af F w w'){a:Addr}(s:a.block<w.heap.size)(q:¬F a.block)(j:w.frozen? a=false):w'.frozen? a=false:=
 (World.frozen?_of_block (h.block a.block s q)).trans j
theorem af.ee {F:Nat→Prop}{w w1:World}(h:af F w w1){k:Nat}(j:¬F k){a b c d e f g:Value}
  (I:w.cell? ⟨k,0,none⟩=some a∧w.cell? ⟨k,1,none⟩=some b∧w.cell? ⟨k,2,none⟩=some c∧w.cell? ⟨k,3,none⟩=some d∧w.cell? ⟨k,4,none⟩=some e∧w.cell? ⟨k,5,none⟩=some f∧w.cell? ⟨k,6,none⟩=some g) :
  w1.cell? ⟨k,0,none⟩=some a∧w1.cell? ⟨k,1,none⟩=some b∧w1.cell? ⟨k,2,none⟩=some c∧w1.cell? ⟨k,3,none⟩=some d∧w1.cell? ⟨k,4,none⟩=some e∧w1.cell? ⟨k,5,none⟩=some f∧w1.cell? ⟨k,6,none⟩=some g:=by
 obtain⟨q,s,t,z,A,B,E⟩:=I
 exact⟨h.cell j q,h.cell j s,h.cell j t,h.cell j z,h.cell j A,h.cell j B,h.cell j E⟩
theorem Cy (sb ib:Nat)(r:Rec)(id:Int)(n:Int)(B:Value)(w:World)
  (t:w.cell? ⟨sb,0,none⟩=some (.int .i64 n)) (E:w.cell? ⟨sb,1,none⟩=some B) (I:w.cell? ⟨sb,2,none⟩=some (.pointer (some ⟨ib,0,none⟩)))
  (z:∀j,ae w j→Calls Tryz.prog 135 #[.pointer (some ⟨ib,0,none⟩),.agg #[.int .u8 r.al,.int .u8 r.I,.int .u8 r.J,.int .u8 r.lo.tag,.int .u32 r.lo.to,.int .u8 r.hi.tag,.int .u32 r.hi.to]] j fun e w'=>e=.returned (.tuple #[.int .u32 id,.bool true])∧ae j w') :
  Calls Tryz.prog 80 #[.pointer (some ⟨sb,0,none⟩),.agg #[.int .u8 r.al,.int .u8 r.I,.int .u8 r.J,.int .u8 r.lo.tag,.int .u32 r.lo.to,.int .u8 r.hi.tag,.int .u32 r.hi.to]] w fun e w'=>e=.returned (.tuple #[.int .u32 id,.int .u8 0])∧ae w w':=by
 have j:sb<w.heap.size:=aB t
 have A:=aa z
 clear z
 go_enter Tryz.func80,Tryz.ntmps80
 go_wp2_with fail
 go_region_held3 (fun w'=>w'.cell? ⟨sb,2,none⟩=some (.pointer (some ⟨ib,0,none⟩))∧(w'.cell? ⟨w.heap.size,0,none⟩=some (.int .u8 r.al)∧w'.cell? ⟨w.heap.size,1,none⟩=some (.int .u8 r.I)∧w'.cell? ⟨w.heap.size,2,none⟩=some (.int .u8 r.J)∧w'.cell? ⟨w.heap.size,3,none⟩=some (.int .u8 r.lo.tag)∧w'.cell? ⟨w.heap.size,4,none⟩=some (.int .u32 r.lo.to)∧w'.cell? ⟨w.heap.size,5,none⟩=some (.int .u8 r.hi.tag)∧w'.cell? ⟨w.heap.size,6,none⟩=some (.int .u32 r.hi.to))) (go_keep) ((first|(go_at_call 135;refine(A.out _ kp).mono ?_;rintro e w1 ⟨rfl,j⟩;have s:ae (w.alloc (.cells #[.int .u8 r.al,.int .u8 r.I,.int .u8 r.J,.int .u8 r.lo.tag,.int .u32 r.lo.to,.int .u8 r.hi.tag,.int .u32 r.hi.to] 134)) w1:=kp;obtain⟨j,z,A,B,L,N,O⟩:=dL s;have q:ae w w1:=(((ae.refl _).alloc _).trans s);have J:=s.size;simp only[ai]at J;have j:=q.cell t;have j:=q.cell E;have j:=q.cell I)))
 all_goals(go_wp2;go_ret2;exact⟨rfl,kp⟩)
theorem Cu (sb ib:Nat)(r:Rec)(ab:0≤r.J)(ad:r.J≤255)(n:Int)(I:Value)(w:World)
  (t:w.cell? ⟨sb,0,none⟩=some (.int .i64 n)) (J:w.cell? ⟨sb,1,none⟩=some I) (L:w.cell? ⟨sb,2,none⟩=some (.pointer (some ⟨ib,0,none⟩)))
  (z:∀j,ae w j→Calls Tryz.prog 135 #[.pointer (some ⟨ib,0,none⟩),.agg #[.int .u8 r.al,.int .u8 r.I,.int .u8 r.J,.int .u8 r.lo.tag,.int .u32 r.lo.to,.int .u8 r.hi.tag,.int .u32 r.hi.to]] j fun e w'=>e=.returned (.tuple #[.int .u32 0,.bool false])∧ae j w')
  (A:∀j,Calls Tryz.prog 136 #[.agg #[.int .u8 r.al,.int .u8 r.I,.int .u8 r.J,.int .u8 r.lo.tag,.int .u32 r.lo.to,.int .u8 r.hi.tag,.int .u32 r.hi.to],.int .i64 n] j fun e w'=>e=.returned (.bool false)∧ae j w')
  : Calls Tryz.prog 80 #[.pointer (some ⟨sb,0,none⟩),.agg #[.int .u8 r.al,.int .u8 r.I,.int .u8 r.J,.int .u8 r.lo.tag,.int .u32 r.lo.to,.int .u8 r.hi.tag,.int .u32 r.hi.to]] w fun e w'=>e=.returned (.tuple #[.int .u32 0,.int .u8 1])∧ae w w':=by
 have j:sb<w.heap.size:=aB t
 have B:=aa z
 have E:=aa A
 clear z A
 go_enter Tryz.func80,Tryz.ntmps80
 go_wp2_with fail
 go_region_held3 (fun w'=>w'.cell? ⟨sb,2,none⟩=some (.pointer (some ⟨ib,0,none⟩))∧(w'.cell? ⟨w.heap.size,0,none⟩=some (.int .u8 r.al)∧w'.cell? ⟨w.heap.size,1,none⟩=some (.int .u8 r.I)∧w'.cell? ⟨w.heap.size,2,none⟩=some (.int .u8 r.J)∧w'.cell? ⟨w.heap.size,3,none⟩=some (.int .u8 r.lo.tag)∧w'.cell? ⟨w.heap.size,4,none⟩=some (.int .u32 r.lo.to)∧w'.cell? ⟨w.heap.size,5,none⟩=some (.int .u8 r.hi.tag)∧w'.cell? ⟨w.heap.size,6,none⟩=some (.int .u32 r.hi.to))) (go_keep) ((first|(go_at_call 135;refine(B.out _ kp).mono ?_;rintro e w1 ⟨rfl,j⟩;have s:ae (w.alloc (.cells #[.int .u8 r.al,.int .u8 r.I,.int .u8 r.J,.int .u8 r.lo.tag,.int .u32 r.lo.to,.int .u8 r.hi.tag,.int .u32 r.hi.to] 134)) w1:=kp;obtain⟨S,T,U,W,X,Y,Z⟩:=dL s;have q:ae w w1:=(((ae.refl _).alloc _).trans s);have O:=s.size;simp only[ai]at O;have N:=q.cell t;have j:=q.cell J;have j:=q.cell L)))
 go_wp2_with fail
 have j:=an.cell N
 have j:=an.cell S
 have j:=an.cell T
 have j:=an.cell U
 have j:=an.cell W
 have j:=an.cell X
 have j:=an.cell Y
 have j:=an.cell Z
 refine cU (w1) (by kernel_rfl) (by kernel_rfl) kp ?_;(repeat (go_big_quiet_step ((first|(go_at_call 136;refine Calls.b1 (E.out _))))));refine wpQuiet_nil ?_;rintro j ⟨⟨_,al⟩,rfl⟩;try dsimp only
 go_wp2
 go_ret2
 exact⟨rfl,kp⟩
theorem Cv (sb ib:Nat)(r:Rec)(al:0≤r.J)(am:r.J≤255)(n:Int)(L:Value)(w:World)
  (t:w.cell? ⟨sb,0,none⟩=some (.int .i64 n)) (N:w.cell? ⟨sb,1,none⟩=some L) (O:w.cell? ⟨sb,2,none⟩=some (.pointer (some ⟨ib,0,none⟩)))
  (z:∀j,ae w j→Calls Tryz.prog 135 #[.pointer (some ⟨ib,0,none⟩),.agg #[.int .u8 r.al,.int .u8 r.I,.int .u8 r.J,.int .u8 r.lo.tag,.int .u32 r.lo.to,.int .u8 r.hi.tag,.int .u32 r.hi.to]] j fun e w'=>e=.returned (.tuple #[.int .u32 0,.bool false])∧ae j w')
  (B:∀j,Calls Tryz.prog 136 #[.agg #[.int .u8 r.al,.int .u8 r.I,.int .u8 r.J,.int .u8 r.lo.tag,.int .u32 r.lo.to,.int .u8 r.hi.tag,.int .u32 r.hi.to],.int .i64 n] j fun e w'=>e=.returned (.bool true)∧ae j w')
  (A:∀j,ae w j→Calls Tryz.prog 134 #[.pointer (some ⟨sb,0,none⟩),.int .u8 r.al,.agg #[.int .u8 r.lo.tag,.int .u32 r.lo.to],.int .i64 (r.J+1)] j fun e w'=>e=.returned (.bool false)∧ae j w')
  : Calls Tryz.prog 80 #[.pointer (some ⟨sb,0,none⟩),.agg #[.int .u8 r.al,.int .u8 r.I,.int .u8 r.J,.int .u8 r.lo.tag,.int .u32 r.lo.to,.int .u8 r.hi.tag,.int .u32 r.hi.to]] w fun e w'=>e=.returned (.tuple #[.int .u32 0,.int .u8 1])∧ae w w':=by
 have j:sb<w.heap.size:=aB t
 have E:=aa z
 have J:=aa B
 have I:=aa A
 clear z B A
 go_enter Tryz.func80,Tryz.ntmps80
 go_wp2_with fail
 go_region_held3 (fun w'=>w'.cell? ⟨sb,2,none⟩=some (.pointer (some ⟨ib,0,none⟩))∧(w'.cell? ⟨w.heap.size,0,none⟩=some (.int .u8 r.al)∧w'.cell? ⟨w.heap.size,1,none⟩=some (.int .u8 r.I)∧w'.cell? ⟨w.heap.size,2,none⟩=some (.int .u8 r.J)∧w'.cell? ⟨w.heap.size,3,none⟩=some (.int .u8 r.lo.tag)∧w'.cell? ⟨w.heap.size,4,none⟩=some (.int .u32 r.lo.to)∧w'.cell? ⟨w.heap.size,5,none⟩=some (.int .u8 r.hi.tag)∧w'.cell? ⟨w.heap.size,6,none⟩=some (.int .u32 r.hi.to))) (go_keep) ((first|(go_at_call 135;refine(E.out _ kp).mono ?_;rintro e w1 ⟨rfl,j⟩;have s:ae (w.alloc (.cells #[.int .u8 r.al,.int .u8 r.I,.int .u8 r.J,.int .u8 r.lo.tag,.int .u32 r.lo.to,.int .u8 r.hi.tag,.int .u32 r.hi.to] 134)) w1:=kp;obtain⟨U,W,X,Y,Z,ab,ad⟩:=dL s;have q:ae w w1:=(((ae.refl _).alloc _).trans s);have T:=s.size;simp only[ai]at T;have S:=q.cell t;have j:=q.cell N;have j:=q.cell O)))
 go_wp2_with fail
 have j:=an.cell S
 have j:=an.cell U
 have j:=an.cell W
 have j:=an.cell X
 have j:=an.cell Y
 have j:=an.cell Z
 have j:=an.cell ab
 have j:=an.cell ad
 refine cU (w1) (by kernel_rfl) (by kernel_rfl) kp ?_;(repeat (go_big_quiet_step ((first|(go_at_call 136;refine Calls.b1 (J.out _))|(go_at_call 134;with_reducible refine Calls.b1 (I.out _ (q.trans (an.a4 _))))))));refine wpQuiet_nil ?_;rintro j ⟨⟨_,av⟩,rfl⟩;try dsimp only
 go_wp2
 go_ret2
 exact⟨rfl,kp⟩
theorem Cw (sb ib:Nat)(r:Rec)(av:0≤r.J)(aw:r.J≤255)(n:Int)(O:Value)(w:World)
  (t:w.cell? ⟨sb,0,none⟩=some (.int .i64 n)) (S:w.cell? ⟨sb,1,none⟩=some O) (T:w.cell? ⟨sb,2,none⟩=some (.pointer (some ⟨ib,0,none⟩)))
  (z:∀j,ae w j→Calls Tryz.prog 135 #[.pointer (some ⟨ib,0,none⟩),.agg #[.int .u8 r.al,.int .u8 r.I,.int .u8 r.J,.int .u8 r.lo.tag,.int .u32 r.lo.to,.int .u8 r.hi.tag,.int .u32 r.hi.to]] j fun e w'=>e=.returned (.tuple #[.int .u32 0,.bool false])∧ae j w')
  (E:∀j,Calls Tryz.prog 136 #[.agg #[.int .u8 r.al,.int .u8 r.I,.int .u8 r.J,.int .u8 r.lo.tag,.int .u32 r.lo.to,.int .u8 r.hi.tag,.int .u32 r.hi.to],.int .i64 n] j fun e w'=>e=.returned (.bool true)∧ae j w')
  (B:∀j,ae w j→Calls Tryz.prog 134 #[.pointer (some ⟨sb,0,none⟩),.int .u8 r.al,.agg #[.int .u8 r.lo.tag,.int .u32 r.lo.to],.int .i64 (r.J+1)] j fun e w'=>e=.returned (.bool true)∧ae j w')
  (A:∀j,ae w j→Calls Tryz.prog 134 #[.pointer (some ⟨sb,0,none⟩),.int .u8 r.al,.agg #[.int .u8 r.hi.tag,.int .u32 r.hi.to],.int .i64 (r.J+1)] j fun e w'=>e=.returned (.bool false)∧ae j w')
  : Calls Tryz.prog 80 #[.pointer (some ⟨sb,0,none⟩),.agg #[.int .u8 r.al,.int .u8 r.I,.int .u8 r.J,.int .u8 r.lo.tag,.int .u32 r.lo.to,.int .u8 r.hi.tag,.int .u32 r.hi.to]] w fun e w'=>e=.returned (.tuple #[.int .u32 0,.int .u8 1])∧ae w w':=by
 have j:sb<w.heap.size:=aB t
 have I:=aa z
 have N:=aa E
 have L:=aa B
 have J:=aa A
 clear z E B A
 go_enter Tryz.func80,Tryz.ntmps80
 go_wp2_with fail
 go_region_held3 (fun w'=>w'.cell? ⟨sb,2,none⟩=some (.pointer (some ⟨ib,0,none⟩))∧(w'.cell? ⟨w.heap.size,0,none⟩=some (.int .u8 r.al)∧w'.cell? ⟨w.heap.size,1,none⟩=some (.int .u8 r.I)∧w'.cell? ⟨w.heap.size,2,none⟩=some (.int .u8 r.J)∧w'.cell? ⟨w.heap.size,3,none⟩=some (.int .u8 r.lo.tag)∧w'.cell? ⟨w.heap.size,4,none⟩=some (.int .u32 r.lo.to)∧w'.cell? ⟨w.heap.size,5,none⟩=some (.int .u8 r.hi.tag)∧w'.cell? ⟨w.heap.size,6,none⟩=some (.int .u32 r.hi.to))) (go_keep) ((first|(go_at_call 135;refine(I.out _ kp).mono ?_;rintro e w1 ⟨rfl,j⟩;have s:ae (w.alloc (.cells #[.int .u8 r.al,.int .u8 r.I,.int .u8 r.J,.int .u8 r.lo.tag,.int .u32 r.lo.to,.int .u8 r.hi.tag,.int .u32 r.hi.to] 134)) w1:=kp;obtain⟨X,Y,Z,ab,ad,al,am⟩:=dL s;have q:ae w w1:=(((ae.refl _).alloc _).trans s);have W:=s.size;simp only[ai]at W;have U:=q.cell t;have j:=q.cell S;have j:=q.cell T)))
 go_wp2_with fail
 have j:=an.cell U
 have j:=an.cell X
 have j:=an.cell Y
 have j:=an.cell Z
 have j:=an.cell ab
 have j:=an.cell ad
 have j:=an.cell al
 have j:=an.cell am
 refine cU (w1) (by kernel_rfl) (by kernel_rfl) kp ?_;(repeat (go_big_quiet_step ((first|(go_at_call 136;refine Calls.b1 (N.out _))|(go_at_call 134;with_reducible refine Calls.b1 (L.out _ (q.trans (an.a4 _))))|(go_at_call 134;with_reducible refine Calls.b1 (J.out _ (q.trans (an.a4 _))))))));refine wpQuiet_nil ?_;rintro j ⟨⟨_,a0⟩,rfl⟩;try dsimp only
 go_wp2
 go_ret2
 exact⟨rfl,kp⟩
theorem Cx (sb ib:Nat)(r:Rec)(a5:0≤r.J)(a6:r.J≤255)(n:Int)(z:Nat)(w:World)
  (B:w.cell? ⟨sb,0,none⟩=some (.int .i64 n)) (aw:w.cell? ⟨sb,1,none⟩=some (.pointer (some ⟨z,0,none⟩))) (a0:w.cell? ⟨sb,2,none⟩=some (.pointer (some ⟨ib,0,none⟩)))
  (E:∀j,ae w j→Calls Tryz.prog 135 #[.pointer (some ⟨ib,0,none⟩),.agg #[.int .u8 r.al,.int .u8 r.I,.int .u8 r.J,.int .u8 r.lo.tag,.int .u32 r.lo.to,.int .u8 r.hi.tag,.int .u32 r.hi.to]] j fun e w'=>e=.returned (.tuple #[.int .u32 0,.bool false])∧ae j w')
  (O:∀j,Calls Tryz.prog 136 #[.agg #[.int .u8 r.al,.int .u8 r.I,.int .u8 r.J,.int .u8 r.lo.tag,.int .u32 r.lo.to,.int .u8 r.hi.tag,.int .u32 r.hi.to],.int .i64 n] j fun e w'=>e=.returned (.bool true)∧ae j w')
  (L:∀j,ae w j→Calls Tryz.prog 134 #[.pointer (some ⟨sb,0,none⟩),.int .u8 r.al,.agg #[.int .u8 r.lo.tag,.int .u32 r.lo.to],.int .i64 (r.J+1)] j fun e w'=>e=.returned (.bool true)∧ae j w')
  (I:∀j,ae w j→Calls Tryz.prog 134 #[.pointer (some ⟨sb,0,none⟩),.int .u8 r.al,.agg #[.int .u8 r.hi.tag,.int .u32 r.hi.to],.int .i64 (r.J+1)] j fun e w'=>e=.returned (.bool true)∧ae j w')
  (N:∀j,ae w j→Calls Tryz.prog 137 #[.pointer (some ⟨z,0,none⟩),.agg #[.int .u8 r.al,.int .u8 r.I,.int .u8 r.J,.int .u8 r.lo.tag,.int .u32 r.lo.to,.int .u8 r.hi.tag,.int .u32 r.hi.to]] j fun e w'=>e=.returned (.tuple #[.int .u32 0,.bool false])∧ae j w') :
  Calls Tryz.prog 80 #[.pointer (some ⟨sb,0,none⟩),.agg #[.int .u8 r.al,.int .u8 r.I,.int .u8 r.J,.int .u8 r.lo.tag,.int .u32 r.lo.to,.int .u8 r.hi.tag,.int .u32 r.hi.to]] w fun e w'=>e=.returned (.tuple #[.int .u32 0,.int .u8 6])∧ae w w':=by
 have am:=aa N
 clear N
 have j:sb<w.heap.size:=aB B
 have ab:=aa E
 have av:=aa O
 have al:=aa L
 have ad:=aa I
 clear E O L I
 go_enter Tryz.func80,Tryz.ntmps80
 go_wp2_with fail
 go_region_held3 (fun w'=>w'.cell? ⟨sb,2,none⟩=some (.pointer (some ⟨ib,0,none⟩))∧(w'.cell? ⟨w.heap.size,0,none⟩=some (.int .u8 r.al)∧w'.cell? ⟨w.heap.size,1,none⟩=some (.int .u8 r.I)∧w'.cell? ⟨w.heap.size,2,none⟩=some (.int .u8 r.J)∧w'.cell? ⟨w.heap.size,3,none⟩=some (.int .u8 r.lo.tag)∧w'.cell? ⟨w.heap.size,4,none⟩=some (.int .u32 r.lo.to)∧w'.cell? ⟨w.heap.size,5,none⟩=some (.int .u8 r.hi.tag)∧w'.cell? ⟨w.heap.size,6,none⟩=some (.int .u32 r.hi.to))) (go_keep) ((first|(go_at_call 135;refine(ab.out _ kp).mono ?_;rintro e w1 ⟨rfl,j⟩;have A:ae (w.alloc (.cells #[.int .u8 r.al,.int .u8 r.I,.int .u8 r.J,.int .u8 r.lo.tag,.int .u32 r.lo.to,.int .u8 r.hi.tag,.int .u32 r.hi.to] 134)) w1:=kp;obtain⟨S,T,U,W,X,Y,Z⟩:=dL A;have t:ae w w1:=(((ae.refl _).alloc _).trans A);have a4:=A.size;simp only[ai]at a4;have a1:=t.cell B;have a3:=t.cell aw;have j:=t.cell a0)))
 go_wp2_with fail
 have j:=an.cell a1
 have j:=an.cell S
 have j:=an.cell T
 have j:=an.cell U
 have j:=an.cell W
 have j:=an.cell X
 have j:=an.cell Y
 have j:=an.cell Z
 refine cU (w1) (by kernel_rfl) (by kernel_rfl) kp ?_;(repeat (go_big_quiet_step ((first|(go_at_call 136;refine Calls.b1 (av.out _))|(go_at_call 134;with_reducible refine Calls.b1 (al.out _ (t.trans (an.a4 _))))|(go_at_call 134;with_reducible refine Calls.b1 (ad.out _ (t.trans (an.a4 _))))))));refine wpQuiet_nil ?_;rintro q ⟨⟨_,s⟩,rfl⟩;try dsimp only
 go_wp2_with fail
 have J:ae w q:=t.trans s
 have j:∀x:an q,x.w.cell? ⟨sb,1,none⟩=some (.pointer (some ⟨z,0,none⟩)):=an.cell (s.cell a3)
 have j:∀x:an q,x.w.cell? _=_:=an.cell (s.cell S)
 have j:∀x:an q,x.w.cell? _=_:=an.cell (s.cell T)
 have j:∀x:an q,x.w.cell? _=_:=an.cell (s.cell U)
 have j:∀x:an q,x.w.cell? _=_:=an.cell (s.cell W)
 have j:∀x:an q,x.w.cell? _=_:=an.cell (s.cell X)
 have j:∀x:an q,x.w.cell? _=_:=an.cell (s.cell Y)
 have j:∀x:an q,x.w.cell? _=_:=an.cell (s.cell Z)
 refine cU (q) (by kernel_rfl) (by kernel_rfl) kp ?_;(repeat (go_big_quiet_step ((first|(go_at_call 137;refine Calls.b1 (am.out _ (J.trans (an.a4 _))))))));refine wpQuiet_nil ?_;rintro q ⟨⟨_,s⟩,rfl⟩;try dsimp only
 go_wp2
 go_ret2
 exact⟨rfl,J.trans (by assumption)⟩
theorem Cz (sb ib:Nat)(r:Rec)(cy:0≤r.J)(cD:r.J≤255)(n:Int)(J:Nat)(w:World)
  (U:w.cell? ⟨sb,0,none⟩=some (.int .i64 n)) (bq:w.cell? ⟨sb,1,none⟩=some (.pointer (some ⟨J,0,none⟩))) (br:w.cell? ⟨sb,2,none⟩=some (.pointer (some ⟨ib,0,none⟩)))
  (Y:∀j,ae w j→Calls Tryz.prog 135 #[.pointer (some ⟨ib,0,none⟩),.agg #[.int .u8 r.al,.int .u8 r.I,.int .u8 r.J,.int .u8 r.lo.tag,.int .u32 r.lo.to,.int .u8 r.hi.tag,.int .u32 r.hi.to]] j fun e w'=>e=.returned (.tuple #[.int .u32 0,.bool false])∧ae j w')
  (aw:∀j,Calls Tryz.prog 136 #[.agg #[.int .u8 r.al,.int .u8 r.I,.int .u8 r.J,.int .u8 r.lo.tag,.int .u32 r.lo.to,.int .u8 r.hi.tag,.int .u32 r.hi.to],.int .i64 n] j fun e w'=>e=.returned (.bool true)∧ae j w')
  (al:∀j,ae w j→Calls Tryz.prog 134 #[.pointer (some ⟨sb,0,none⟩),.int .u8 r.al,.agg #[.int .u8 r.lo.tag,.int .u32 r.lo.to],.int .i64 (r.J+1)] j fun e w'=>e=.returned (.bool true)∧ae j w')
  (Z:∀j,ae w j→Calls Tryz.prog 134 #[.pointer (some ⟨sb,0,none⟩),.int .u8 r.al,.agg #[.int .u8 r.hi.tag,.int .u32 r.hi.to],.int .i64 (r.J+1)] j fun e w'=>e=.returned (.bool true)∧ae j w')
  (id:Int) (t B:Nat→Prop) (X:∀k,t k→k<w.heap.size) (hi:∀k,B k→k<w.heap.size) (has:¬t sb) (ab:¬B sb) (I T:World→World→Prop)
  (am:∀j,ae w j→Calls Tryz.prog 137 #[.pointer (some ⟨J,0,none⟩),.agg #[.int .u8 r.al,.int .u8 r.I,.int .u8 r.J,.int .u8 r.lo.tag,.int .u32 r.lo.to,.int .u8 r.hi.tag,.int .u32 r.hi.to]] j fun e w'=>e=.returned (.tuple #[.int .u32 id,.bool true])∧af t j w'∧I j w')
  (av:∀j s q,ae w j→af t j s→I j s→ae s q→Calls Tryz.prog 138 #[.pointer (some ⟨ib,0,none⟩),.agg #[.int .u8 r.al,.int .u8 r.I,.int .u8 r.J,.int .u8 r.lo.tag,.int .u32 r.lo.to,.int .u8 r.hi.tag,.int .u32 r.hi.to],.int .u32 id] q fun e w'=>e=.returned (.tuple #[.int .u32 0,.bool false])∧af B q w'∧T q w') :
  Calls Tryz.prog 80 #[.pointer (some ⟨sb,0,none⟩),.agg #[.int .u8 r.al,.int .u8 r.I,.int .u8 r.J,.int .u8 r.lo.tag,.int .u32 r.lo.to,.int .u8 r.hi.tag,.int .u32 r.hi.to]] w fun e w'=>e=.returned (.tuple #[.int .u32 id,.int .u8 0]) ∧
   ∃j s q,ae w j∧af t j s∧I j s∧ae s q∧af B q w'∧T q w':=by
 have bi:=aa am
 have bn:=aa av
 have a':=aa X
 have S:=aa has
 have bb:=aa hi
 have bd:=aa ab
 clear am av X hi has ab
 have j:sb<w.heap.size:=aB U
 have be:=aa Y
 have bp:=aa aw
 have bg:=aa al
 have bf:=aa Z
 clear Y aw al Z
 go_enter Tryz.func80,Tryz.ntmps80
 go_wp2_with fail
 go_region_held3 (fun w'=>w'.cell? ⟨sb,2,none⟩=some (.pointer (some ⟨ib,0,none⟩))∧(w'.cell? ⟨w.heap.size,0,none⟩=some (.int .u8 r.al)∧w'.cell? ⟨w.heap.size,1,none⟩=some (.int .u8 r.I)∧w'.cell? ⟨w.heap.size,2,none⟩=some (.int .u8 r.J)∧w'.cell? ⟨w.heap.size,3,none⟩=some (.int .u8 r.lo.tag)∧w'.cell? ⟨w.heap.size,4,none⟩=some (.int .u32 r.lo.to)∧w'.cell? ⟨w.heap.size,5,none⟩=some (.int .u8 r.hi.tag)∧w'.cell? ⟨w.heap.size,6,none⟩=some (.int .u32 r.hi.to))) (go_keep) ((first|(go_at_call 135;refine(be.out _ kp).mono ?_;rintro e w1 ⟨rfl,b2⟩;have N:ae (w.alloc (.cells #[.int .u8 r.al,.int .u8 r.I,.int .u8 r.J,.int .u8 r.lo.tag,.int .u32 r.lo.to,.int .u8 r.hi.tag,.int .u32 r.hi.to] 134)) w1:=kp;obtain⟨a1,a3,a4,a5,a6,a7,a8⟩:=dL N;have z:ae w w1:=(((ae.refl _).alloc _).trans N);have a0:=N.size;simp only[ai]at a0;have bs:=z.cell U;have bv:=z.cell bq;have bx:=z.cell br)))
 go_wp2_with fail
 have bt:=an.cell bs
 have cc:=an.cell a1
 have cd:=an.cell a3
 have ce:=an.cell a4
 have cf:=an.cell a5
 have cg:=an.cell a6
 have ch:=an.cell a7
 have ci:=an.cell a8
 refine cU (w1) (by kernel_rfl) (by kernel_rfl) kp ?_;(repeat (go_big_quiet_step ((first|(go_at_call 136;refine Calls.b1 (bp.out _))|(go_at_call 134;with_reducible refine Calls.b1 (bg.out _ (z.trans (an.a4 _))))|(go_at_call 134;with_reducible refine Calls.b1 (bf.out _ (z.trans (an.a4 _))))))));refine wpQuiet_nil ?_;rintro O ⟨⟨_,A⟩,rfl⟩;try dsimp only
 go_wp2_with fail
 have ad:ae w O:=z.trans A
 have bw:=A.cell bv
 have bD:=A.cell bx
 obtain⟨cj,cl,cn,co,cp,cv,cx⟩:=A.ee ⟨a1,a3,a4,a5,a6,a7,a8⟩
 clear bt cc cd ce cf cg ch ci b2
 have j:w.heap.size<O.heap.size:=by have:=A.size;omega
 have j:sb<O.heap.size:=by have:=A.size;omega
 have b3:¬t w.heap.size:=fun h=>by have:=a'.out _ h;omega
 have b4:¬B w.heap.size:=fun h=>by have:=bb.out _ h;omega
 clear a0
 go_region_held3 (fun w'=>w'.cell? ⟨sb,1,none⟩=some (.pointer (some ⟨J,0,none⟩))∧(w'.cell? ⟨w.heap.size,0,none⟩=some (.int .u8 r.al)∧w'.cell? ⟨w.heap.size,1,none⟩=some (.int .u8 r.I)∧w'.cell? ⟨w.heap.size,2,none⟩=some (.int .u8 r.J)∧w'.cell? ⟨w.heap.size,3,none⟩=some (.int .u8 r.lo.tag)∧w'.cell? ⟨w.heap.size,4,none⟩=some (.int .u32 r.lo.to)∧w'.cell? ⟨w.heap.size,5,none⟩=some (.int .u8 r.hi.tag)∧w'.cell? ⟨w.heap.size,6,none⟩=some (.int .u32 r.hi.to))) (go_keep) ((first|(go_at_call 137;refine(bi.out _ kp).mono ?_;rintro e j ⟨rfl,E,W⟩;have j:=E.cell (a:=⟨sb,1,none⟩) S.out bw;have b0:=E.cell (a:=⟨sb,2,none⟩) S.out bD;obtain⟨b5,b6,b7,b8,b9,ca,cb⟩:=E.ee b3 ⟨cj,cl,cn,co,cp,cv,cx⟩)))
 go_wp2_with fail
 go_region_held3 (fun w'=>w'.cell? ⟨sb,2,none⟩=some (.pointer (some ⟨ib,0,none⟩))∧(w'.cell? ⟨w.heap.size,0,none⟩=some (.int .u8 r.al)∧w'.cell? ⟨w.heap.size,1,none⟩=some (.int .u8 r.I)∧w'.cell? ⟨w.heap.size,2,none⟩=some (.int .u8 r.J)∧w'.cell? ⟨w.heap.size,3,none⟩=some (.int .u8 r.lo.tag)∧w'.cell? ⟨w.heap.size,4,none⟩=some (.int .u32 r.lo.to)∧w'.cell? ⟨w.heap.size,5,none⟩=some (.int .u8 r.hi.tag)∧w'.cell? ⟨w.heap.size,6,none⟩=some (.int .u32 r.hi.to))) (go_keep) ((first|(go_at_call 138;refine(bn.out _ _ _ ad.drew E W kp).mono ?_;rintro e j ⟨rfl,L,b1⟩;have j:=L.cell (a:=⟨sb,2,none⟩) bd.out b0;obtain⟨j,q,s,t,z,A,B⟩:=L.ee b4 ⟨b5,b6,b7,b8,b9,ca,cb⟩)))
 go_wp2
 go_ret2
 exact⟨rfl,_,_,_,ad.drew,E,W,(ae.refl _).drew,L,b1⟩
theorem kJ {F:Nat→Prop}{w:World}{sb:Nat}{M:St}(h:ak F w sb M)(r:Rec)(N:r.ok) :
  Calls Tryz.prog 80 #[.pointer (some ⟨sb,0,none⟩),.agg #[.int .u8 r.al,.int .u8 r.I,.int .u8 r.J,.int .u8 r.lo.tag,.int .u32 r.lo.to,.int .u8 r.hi.tag,.int .u32 r.hi.to]] w fun e w'=>
   e=.returned (.tuple #[.int .u32 (M.bd r),.int .u8 (M.a' r)])∧af F w w'∧ak (aC F w w') w' sb (M.a7 r):=by
 have bv:=fun(s:World) (z:ae w s) (e:Edge) (A:e.ok)=>dF (h.ad z) r.al e (r.J+1) A
 have bq:∀{e:Ending} {w':World} {i bg:Int},M.a7 r=M→M.bd r=i→M.a' r=bg→e=.returned (.tuple #[.int .u32 i,.int .u8 bg])∧ae w w' →
   e=.returned (.tuple #[.int .u32 (M.bd r),.int .u8 (M.a' r)])∧af F w w'∧ak (aC F w w') w' sb (M.a7 r):=by
  intro e w' i bg I am bb ⟨bn,ad⟩
  rw[I,am,bb]
  have j:=h.ad ad
  obtain⟨⟨S,ib,ts,W,X,a5,a6,bg,cb,cc,cd,ce,cf⟩,bD,b0,b1⟩:=j
  refine⟨bn,ad.av F,⟨⟨S,ib,ts,W,X,a5,a6,bg,cb,cc,fun k j=>.inl (cd k j),fun k j=>.inl (ce k j),cf⟩,.inl bD,fun k j=>?_,b1⟩⟩
  rcases j with j|j
  ·exact b0 k j
  ·exact j.2
 have a3:=h.wf
 have bw:∀id,look M.cs id=some r↔M.bD r=some id:=fun id=>jf h.b3 r id
 obtain⟨⟨S,ib,ts,W,X,I,am,bb,bn,ad,bd,be,bs,bp,bi⟩,b3,a2,bg⟩:=h
 have Y:w.cell? ⟨sb,0,none⟩=some (.int .i64 M.n):=by rw[cell_of_row w sb 0 _ _ _ I];rfl
 have Z:w.cell? ⟨sb,1,none⟩=some (.pointer (some ⟨S,0,none⟩)):=by rw[cell_of_row w sb 1 _ _ _ I];rfl
 have ab:w.cell? ⟨sb,2,none⟩=some (.pointer (some ⟨ib,0,none⟩)):=by rw[cell_of_row w sb 2 _ _ _ I];rfl
 have L:∀s,ae w s→Calls Tryz.prog 135 #[.pointer (some ⟨ib,0,none⟩),.agg #[.int .u8 r.al,.int .u8 r.I,.int .u8 r.J,.int .u8 r.lo.tag,.int .u32 r.lo.to,.int .u8 r.hi.tag,.int .u32 r.hi.to]] s fun e w'=>e=.returned (.tuple #[.int .u32 ((M.bD r).getD 0),.bool (M.bD r).isSome])∧ae s w':=
  fun s z=>rr (bb.ad z) r N (M.bD r) (fun id=>(ad r id).trans (bw id))
 have aw:=N.J.1
 have a0:=N.J.2
 have O:=fun s=>BO r N M.n s
 cases hi:M.bD r with
 |some id=>
  rw[hi]at L;refine(Cy sb ib r id M.n _ w Y Z ab L).mono fun e w' A=>?_;exact bq (by unfold St.a7;rw[hi]) (by unfold St.bd;rw[hi]) (by unfold St.a';rw[hi]) A
 |none=>
  rw[hi]at L;have U:=fun s z=>bv s z r.lo N.lo;have a1:=fun s z=>bv s z r.hi N.hi;cases t:M.br r with
  |true=>
   have fin:∀{e:Ending} {w':World},e=.returned (.tuple #[.int .u32 0,.int .u8 1])∧ae w w'→e=.returned (.tuple #[.int .u32 (M.bd r),.int .u8 (M.a' r)])∧af F w w'∧ak (aC F w w') w' sb (M.a7 r):=
    bq (by unfold St.a7;rw[hi,t];rfl) (by unfold St.bd;rw[hi,t];rfl) (by unfold St.a';rw[hi,t];rfl)
   unfold St.br at t;cases bg:fT r M.n with
   |false=>
    rw[bg]at O;exact(Cu sb ib r aw a0 M.n _ w Y Z ab L O).mono fun e w' A=>fin A
   |true=>
    rw[bg]at O t;cases bg:M.leads r.al r.lo (r.J+1)with
    |false=>
     rw[bg]at U;exact(Cv sb ib r aw a0 M.n _ w Y Z ab L O U).mono fun e w' A=>fin A
    |true=>
     rw[bg]at U t;have bg:M.leads r.al r.hi (r.J+1)=false:=(by simpa using t);rw[bg]at a1;exact(Cw sb ib r aw a0 M.n _ w Y Z ab L O U a1).mono fun e w' A=>fin A
  |false=>
   have av:=t;unfold St.br at av;simp only[Bool.or_eq_false_iff,Bool.not_eq_false']at av;rw[av.1.1]at O;rw[av.1.2]at U;rw[av.2]at a1;by_cases T:M.room≤M.len
   ·refine(Cx sb ib r aw a0 M.n S w Y Z ab L O U a1 (fun s z=>vd (am.ad z) r T)).mono fun e w' A=>?_;exact bq (by unfold St.a7;rw[hi,t];simp[T]) (by unfold St.bd;rw[hi,t];simp[T]) (by unfold St.a';rw[hi,t];simp[T]) A
   ·have bx:M.len<M.room:=(by omega);have b4:M.a7 r=M.add r:=(by unfold St.a7;rw[hi,t];simp[T,St.add]);have b5:M.bd r=cQ M.gone M.cs.length:=(by unfold St.bd;rw[hi,t];simp[T]);have b6:M.a' r=0:=(by unfold St.a';rw[hi,t];simp[T]);obtain⟨bD,b0,b1⟩:=mK a3.gone;have A:=am.bx;have A:=a3.e6;have A:=a3.fp
    have b7:∀B,¬ao.has ts r B:=fun B A=>by
     have:=(bw B).1 ((ad r B).1 A);rw[hi]at this;cases this
    refine(Cz sb ib r aw a0 M.n S w Y Z ab L O U a1 (cQ M.gone M.cs.length) W X (fun k j=>a2 k (bd k j)) (fun k j=>a2 k (be k j)) bp bi
     (fun s E=>dy (aC W s E) E S (dn M.cs M.gone r) M.gone.dropLast (M.len+1) M.room)
     (fun s E=>∃a8,dI (aC X s E) E ib a8 (M.len+1)∧M.len+1=(occ a8:Int)∧∀a7 B,ao.has a8 a7 B↔(a7=r∧B=cQ M.gone M.cs.length)∨ao.has ts a7 B)
     (fun s z=>u' (am.ad z) r N bx) (fun s E br a4 a' b2 al=>?_)).mono ?_
    ·have z:=((bb.ad a4).a4 a' (fun k j J=>bs k J j)).ad al;exact yA z bn (by omega) r N _ (by omega) (by omega) b7
    ·rintro e w' ⟨rfl,s,E,br,a4,a',b2,al,bf,a8,b8,b9,ca⟩;rw[b4,b5,b6];have z:=a4.size;have z:=a'.size;have z:=al.size;have z:=bf.size;have cg:af F w w':=((((a4.av F).bg (a'.mono (fun k _ j=>bd k j))).bg (al.av F)).bg (bf.mono (fun k _ j=>be k j)))
     have bt:∀k,aC W s E k→¬X k:=fun k j J=>by
      rcases j with j|j;·exact bs k j J
      ·have:=a2 k (be k J);omega
     refine⟨rfl,cg,⟨⟨S,ib,a8,aC W s E,aC X br w',?_,?_,?_,?_,?_,?_,?_,?_,?_,?_⟩,.inl b3,?_,?_⟩⟩
     ·have s:=aM I;show w'.heap[sb]?=some (.cells #[.int .i64 M.n,_,_] _ _);rw[bf.block sb (by omega) bi,al.block sb (by omega),a'.block sb (by omega) bp,a4.block sb s];exact I
     ·rw[M.fg r];exact(b2.ad al).a4 bf bt
     ·rw[M.fg r];exact b8
     ·rw[M.fg r];exact b9
     ·intro a7 B;rw[ca,a3.fj r B a7,ad];constructor
      ·rintro(⟨a5,a6⟩|q);·exact .inl ⟨a6,a5⟩
       ·exact .inr q
      ·rintro(⟨a5,a6⟩|q);·exact .inl ⟨a6,a5⟩
       ·exact .inr q
     ·intro k j;rcases j with j|j;·exact .inl (bd k j)
      ·exact .inr ⟨by omega,by omega⟩
     ·intro k j;rcases j with j|j;·exact .inl (be k j)
      ·exact .inr ⟨by omega,by omega⟩
     ·intro k j J;rcases J with J|J;·exact bt k j J
      ·rcases j with j|j
       ·have:=a2 k (bd k j);omega
       ·omega
     ·rintro(j|j);·exact bp j
      ·have:=aM I;omega
     ·rintro(j|j);·exact bi j
      ·have:=aM I;omega
     ·intro k j;rcases j with j|j
      ·have:=a2 k j;omega
      ·exact j.2
     ·exact a3.add hi t bx
def St.new (n room:Int):St:=⟨[],[],n,room⟩
theorem look_nil (id:Int):look [] id=none:=by unfold look;split<;>simp
theorem St.hd {n room:Int}(s:0≤n)(t:n≤16)(q:0≤room)(z:room≤1048576):(St.new n room).wf:=
 ⟨s,t,fun id hid=>by simp[St.new]at hid,by simp[St.new],fun id r j=>by simp[St.new,look_nil]at j,fun r id s j=>by simp[St.new,look_nil]at j,by simp[St.len,St.new],q,z,by simp[St.len,St.new];exact q⟩
theorem tM (n room:Int)(w:World)(z:0≤n)(A:n≤16)(t:0≤room)(q:room≤1048576) :
  Calls Tryz.prog 68 #[.int .i64 n,.int .i64 room] w fun e w'=>∃sb F,e=.returned (.tuple #[.pointer (some ⟨sb,0,none⟩),.int .u8 0])∧ae w w'∧(∀k,F k→w.heap.size≤k)∧ak F w' sb (St.new n room):=by
 go_enter Tryz.func68,Tryz.ntmps68
 go_wp2_with (first|(go_at_call 116;refine(uZ _ _ t q).mono ?_;rintro e w' ⟨rfl,rfl⟩)|(go_at_call 117;refine(yz _).mono ?_;rintro e w1 ⟨ib,rfl,I,j,B⟩))
 go_ret2
 refine⟨w1.heap.size,fun k=>w.heap.size≤k∧k<w1.heap.size+1,rfl,(((ae.refl w).alloc _).trans j).alloc _,fun k j=>j.1,?_⟩
 have N:=j.size
 simp only[ai]at N I
 have E:(w1.alloc (.cells #[.int .i64 n,.pointer (some ⟨w.heap.size,0,none⟩),.pointer (some ⟨ib,0,none⟩)] 132)).heap[w.heap.size]?=some (.cells #[.slice none 0 0,.slice none 0 0,.int .i64 0,.int .i64 room] 194 (0,0)):=
  (ae.alloc (ae.refl w1) _).heap (j.heap (heap_alloc_new w _))
 refine⟨⟨w.heap.size,ib,List.replicate 8 none,fun k=>k=w.heap.size,fun k=>(w.alloc (.cells #[.slice none 0 0,.slice none 0 0,.int .i64 0,.int .i64 room] 194)).heap.size≤k∧k<w1.heap.size,heap_alloc_new w1 _,?_,?_,?_,?_,?_,?_,?_,?_,?_⟩,?_,?_,St.hd z A t q⟩
 ·refine⟨⟨_,_,E,?_,?_,?_,?_⟩,rfl,by simp[St.new],by simp[St.new,St.len],by simp[St.new,St.len],q,fun id hid=>by simp[St.new]at hid,fun r L=>by simp[St.new]at L⟩;·exact World.ownsRow_nil _ _ _ _
  ·exact World.ownsRow_nil _ _ _ _
  ·intro k j;simp[Value.ownBlock]at j
  ·intro k j;simp[Value.ownBlock]at j
 ·exact B.ad ((ae.refl w1).alloc _)
 ·rw[(eN.empty bl 8).2.1];rfl
 ·intro r id;rw[show look (St.new n room).cs id=none from look_nil id];constructor;·intro s;exact((eN.empty bl 8).2.2 r id s).elim
  ·intro s;cases s
 ·intro k j;omega
 ·intro k j;simp only[ai]at j;omega
 ·intro k j J;simp only[ai]at J;omega
 ·omega
 ·omega
 ·omega
 ·intro k j;rw[ai];exact j.2
end Go.Proofs.YtafkamlhimkbmaaGreat
