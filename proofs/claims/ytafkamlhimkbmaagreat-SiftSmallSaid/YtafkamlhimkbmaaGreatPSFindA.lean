/-
  How a store lies in memory; the walks of its small functions.
-/
import Derived.Test.YtafkamlhimkbmaaGreatPIPut
import Derived.Test.YtafkamlhimkbmaaGreatPStA
namespace Go.Proofs.YtafkamlhimkbmaaGreat
set_option maxRecDepth 1000000
set_option maxHeartbeats 8000000
set_option linter.unusedSimpArgs false
set_option linter.unusedVariables false
open Go.RowKit

structure ag (F:Nat→Prop)(w:World)(sb:Nat)(M:St):Prop where
 h0:∃ab ib ts Fa Fi,w.heap[sb]?=some (.cells #[.int .i64 M.n,.pointer (some ⟨ab,0,none⟩),.pointer (some ⟨ib,0,none⟩)] 132 (0,0)) ∧
  cO Fa w ab M.cs M.gone M.len M.room∧cQ Fi w ib ts M.len∧M.len=(occ ts:Int)∧(∀r id,ah.has ts r id↔look M.cs id=some r) ∧
  (∀k,Fa k→F k)∧(∀k,Fi k→F k)∧(∀k,Fa k→¬Fi k)∧¬Fa sb∧¬Fi sb
 own:F sb
 lt:∀k,F k→k<w.heap.size
 wf:M.wf

theorem ag.a5 {F G:Nat→Prop}{w j:World}{t:Nat}{M:St}(h:ag F w t M)(q:ae G w j)(s:∀k,F k→¬G k):ag F j t M:=by
 obtain⟨⟨O,ib,ts,J,K,A,S,T,U,W,E,I,X⟩,z,L,N⟩:=h;exact⟨⟨O,ib,ts,J,K,(q.block t (aN A) (s _ z)).trans A,S.a5 q (fun k j=>s _ (E k j)),T.a5 q (fun k j=>s _ (I k j)),U,W,E,I,X⟩,z,fun k j=>Nat.lt_of_lt_of_le (L k j) q.size,N⟩

theorem ag.U {F:Nat→Prop}{w j:World}{q:Nat}{M:St}(h:ag F w q M)(s:aa w j):ag F j q M:=
 h.a5 (s.av (fun _=>False)) (fun _ _ h=>h)

theorem ag.b2 {F:Nat→Prop}{w:World}{j:Nat}{M:St}(h:ag F w j M):M.b2:=h.wf.b2

theorem ag.b1 {F:Nat→Prop}{w:World}{q:Nat}{M:St}(h:ag F w q M){id:Int}{r:Rec}(s:look M.cs id=some r):r.ok:=by
 obtain⟨⟨z,ib,ts,q,t,A,j,_⟩,_⟩:=h;obtain⟨_,_,q⟩:=bL s;exact j.b1 r (List.mem_of_getElem? q)

theorem Rec.hG:Rec.zero.ok:=⟨by decide,by decide,by decide,⟨by decide,by decide⟩,⟨by decide,by decide⟩⟩

theorem ag.ev {F:Nat→Prop}{w:World}{j:Nat}{M:St}(h:ag F w j M)(id:Int):(an (look M.cs id)).ok:=by
 cases j:look M.cs id with
 |none=>exact Rec.hG
 |some r=>exact h.b1 j

theorem jR {F:Nat→Prop}{w:World}{j:Nat}{M:St}(h:ag F w j M) :
  Calls Tryz.prog 21 #[.pointer (some ⟨j,0,none⟩)] w fun e w'=>e=.returned (.int .i64 M.len)∧w=w':=by
 obtain⟨⟨t,ib,ts,z,A,q,s,-⟩,-⟩:=h
 have z:w.cell? ⟨j,1,none⟩=some (.pointer (some ⟨t,0,none⟩)):=by rw[cell_of_row w j 1 _ _ _ q];rfl
 have H:=Lib.hid (sM s)
 clear q s
 go_enter Tryz.func21,Tryz.ntmps21
 go_wp2_with (go_at_call 65;refine H.out.mono ?_;rintro e w' ⟨rfl,rfl⟩)
 go_ret
 exact⟨rfl,rfl⟩

theorem dw {F:Nat→Prop}{w:World}{j:Nat}{M:St}(h:ag F w j M) :
  Calls Tryz.prog 48 #[.pointer (some ⟨j,0,none⟩)] w fun e w'=>e=.returned (.int .i64 M.n)∧w=w':=by
 obtain⟨⟨A,ib,ts,t,z,q,s,-⟩,-⟩:=h
 have t:w.cell? ⟨j,0,none⟩=some (.int .i64 M.n):=by rw[cell_of_row w j 0 _ _ _ q];rfl
 clear q s
 go_enter Tryz.func48,Tryz.ntmps48
 go_wp2
 go_ret
 exact⟨rfl,rfl⟩

theorem ef {F:Nat→Prop}{w:World}{j:Nat}{M:St}(h:ag F w j M)(id:Int)(hid:id≤4294967295) :
  Calls Tryz.prog 78 #[.pointer (some ⟨j,0,none⟩),.int .u32 id] w fun e w'=>
   e=.returned (.tuple #[.agg #[.int .u8 (an (look M.cs id)).ad,.int .u8 (an (look M.cs id)).I,.int .u8 (an (look M.cs id)).J,.int .u8 (an (look M.cs id)).lo.tag,.int .u32 (an (look M.cs id)).lo.to,.int .u8 (an (look M.cs id)).hi.tag,.int .u32 (an (look M.cs id)).hi.to],.bool (eZ (look M.cs id))])∧aa w w':=by
 obtain⟨⟨A,ib,ts,T,U,q,t,-⟩,-⟩:=h
 have T:w.cell? ⟨j,1,none⟩=some (.pointer (some ⟨A,0,none⟩)):=by rw[cell_of_row w j 1 _ _ _ q];rfl
 have j:=aN q
 have H:=Lib.hid t
 clear q t
 go_enter Tryz.func78,Tryz.ntmps78
 go_wp2_with (go_at_call 133;refine(lU (H.out.U (by(exact kp))) id hid).mono ?_;rintro e w1 ⟨rfl,s⟩;obtain⟨I,J,K,L,N,O,S⟩:=fQ (w:=w) (w1:=w1) s;have z:aa w w1:=(by(exact kp));obtain⟨j,q⟩:=s.cells;obtain⟨j,q⟩:=z.cells;have E:=s.size;(try simp only[World.size_alloc,World.c5,World.a3,World.size_setCell]at E);have j:=z.size;have j:w.heap.size<w1.heap.size:=(by omega))
 refine bodyPost_ret (v:=.tuple #[.agg #[.int .u8 (an (look M.cs id)).ad,.int .u8 (an (look M.cs id)).I,.int .u8 (an (look M.cs id)).J,.int .u8 (an (look M.cs id)).lo.tag,.int .u32 (an (look M.cs id)).lo.to,.int .u8 (an (look M.cs id)).hi.tag,.int .u32 (an (look M.cs id)).hi.to],.bool (eZ (look M.cs id))]) (by simp[results,Tryz.results78,go_sem,I,J,K,L,N,O,S]) rfl ⟨rfl,by(exact kp)⟩

theorem xt (M:St)(f:Int)(e:Edge)(l:Int)(q:dY f e l M.n=true)(j:¬e.to<2) :
  M.leads f e l=(eZ (look M.cs e.to)&&(an (look M.cs e.to)).ad==f&&decide (l≤(an (look M.cs e.to)).I)&&decide (e.tag≤(an (look M.cs e.to)).I)):=by
 unfold St.leads
 rw[q]
 simp only[Bool.true_and,decide_eq_false j,Bool.false_or]
 cases look M.cs e.to with
 |none=>rfl
 |some r=>show _=(true&&_&&_&&_);simp only[Bool.true_and];rfl

theorem xu (s L:Nat)(f j a l n:Int)(x:Rec)(b:Bool)(w:World)(ad:0≤j)(am:j≤255)(ab:x.ok)
  (z:w.cell? ⟨s,0,none⟩=some (.int .i64 n)) (I:w.cell? ⟨s,1,none⟩=some (.pointer (some ⟨L,0,none⟩)))
  (X:∀K,aa w K→Calls Tryz.prog 133 #[.pointer (some ⟨L,0,none⟩),.int .u32 a] K fun e w'=>e=.returned (.tuple #[.agg #[.int .u8 x.ad,.int .u8 x.I,.int .u8 x.J,.int .u8 x.lo.tag,.int .u32 x.lo.to,.int .u8 x.hi.tag,.int .u32 x.hi.to],.bool b])∧aa K w') :
  Calls Tryz.prog 134 #[.pointer (some ⟨s,0,none⟩),.int .u8 f,.agg #[.int .u8 j,.int .u32 a],.int .i64 l] w fun e w'=>
   e=.returned (.bool (dY f ⟨j,a⟩ l n&&(decide (a<2)||(b&&x.ad==f&&decide (l≤x.I)&&decide (j≤x.I)))))∧aa w w':=by
 have K:s<w.heap.size:=aD z
 obtain⟨K,⟨aw,a1⟩,ad,am,av⟩:=ab
 have H:=Lib.hid X
 clear X K ad am av
 have K:w.heap.size+1≠s:=by omega
 cases K:dY f ⟨j,a⟩ l n with
 |false=>
  go_enter Tryz.func134,Tryz.ntmps134
  go_wp2_with fail
  go_region_held3 (fun w'=>w'.cell? ⟨s,0,none⟩=some (.int .i64 n)∧w'.cell? ⟨w.heap.size,0,none⟩=some (.int .u8 j)∧w'.cell? ⟨w.heap.size,1,none⟩=some (.int .u32 a)) (go_keep) ((first|(go_at_call 199;refine(k8 _ _ _ _ _ _ (by omega) (by omega)).mono ?_;rintro S w1 ⟨rfl,A⟩;have q:aa (w.alloc (.cells #[.int .u8 j,.int .u32 a] 52)) w1:=(by(exact kp));have T:w1.cell? ⟨w.heap.size,0,none⟩=some (.int .u8 j):=q.cell (by simp);have U:w1.cell? ⟨w.heap.size,1,none⟩=some (.int .u32 a):=q.cell (by simp);have t:aa w w1:=(((aa.refl _).alloc _).trans q);have E:=q.size;simp only[World.size_alloc]at E;have N:=t.cell z;have O:=t.cell I)))
  all_goals(go_wp2;go_ret;exact⟨rfl,by(exact kp)⟩)
 |true=>
  by_cases Y:a<2
  ·go_enter Tryz.func134,Tryz.ntmps134
   go_wp2_with fail
   go_region_held3 (fun w'=>w'.cell? ⟨s,0,none⟩=some (.int .i64 n)∧w'.cell? ⟨w.heap.size,0,none⟩=some (.int .u8 j)∧w'.cell? ⟨w.heap.size,1,none⟩=some (.int .u32 a)) (go_keep) ((first|(go_at_call 199;refine(k8 _ _ _ _ _ _ (by omega) (by omega)).mono ?_;rintro S w1 ⟨rfl,A⟩;have q:aa (w.alloc (.cells #[.int .u8 j,.int .u32 a] 52)) w1:=(by(exact kp));have T:w1.cell? ⟨w.heap.size,0,none⟩=some (.int .u8 j):=q.cell (by simp);have U:w1.cell? ⟨w.heap.size,1,none⟩=some (.int .u32 a):=q.cell (by simp);have t:aa w w1:=(((aa.refl _).alloc _).trans q);have E:=q.size;simp only[World.size_alloc]at E;have N:=t.cell z;have O:=t.cell I)))
   all_goals(go_wp2;go_ret;exact⟨by simp[Y],by(exact kp)⟩)
  ·go_enter Tryz.func134,Tryz.ntmps134
   go_wp2_with fail
   go_region_held3 (fun w'=>w'.cell? ⟨s,0,none⟩=some (.int .i64 n)∧w'.cell? ⟨w.heap.size,0,none⟩=some (.int .u8 j)∧w'.cell? ⟨w.heap.size,1,none⟩=some (.int .u32 a)) (go_keep) ((first|(go_at_call 199;refine(k8 _ _ _ _ _ _ (by omega) (by omega)).mono ?_;rintro S w1 ⟨rfl,A⟩;have q:aa (w.alloc (.cells #[.int .u8 j,.int .u32 a] 52)) w1:=(by(exact kp));have T:w1.cell? ⟨w.heap.size,0,none⟩=some (.int .u8 j):=q.cell (by simp);have U:w1.cell? ⟨w.heap.size,1,none⟩=some (.int .u32 a):=q.cell (by simp);have t:aa w w1:=(((aa.refl _).alloc _).trans q);have E:=q.size;simp only[World.size_alloc]at E;have N:=t.cell z;have O:=t.cell I)))
   go_wp2
   have E:s<w1.heap.size:=(by omega);have E:w1.heap.size≠s:=(by omega);have E:w1.heap.size≠w.heap.size:=(by omega);have W:=Lib.hid t;clear A t z I q N;go_region_held3 (fun w'=>w'.cell? ⟨s,1,none⟩=some (.pointer (some ⟨L,0,none⟩))∧w'.cell? ⟨w.heap.size,0,none⟩=some (.int .u8 j)∧w'.cell? ⟨w.heap.size,1,none⟩=some (.int .u32 a)) (go_keep) ((first|(go_at_call 133;have Z:=W.out;refine(H.out _ (by(exact kp))).mono ?_;rintro S J ⟨rfl,A⟩;obtain⟨j,q⟩:=A.cells;have j:aa w1 J:=(by(exact kp));have q:=j.cell T;have q:=j.cell U;have q:=j.cell O;have q:=j.size;have j:J.heap.size≠s:=(by omega);have j:J.heap.size≠w.heap.size:=(by omega);have j:w.heap.size<J.heap.size:=(by omega))))
   all_goals go_wp2
   all_goals(go_ret;have Z:=W.out;refine⟨?_,by(exact kp)⟩)
   all_goals simp_all
   all_goals(try omega)

theorem cX {F:Nat→Prop}{w:World}{j:Nat}{M:St}(h:ag F w j M)(f:Int)(e:Edge)(l:Int)(s:e.ok) :
  Calls Tryz.prog 134 #[.pointer (some ⟨j,0,none⟩),.int .u8 f,.agg #[.int .u8 e.tag,.int .u32 e.to],.int .i64 l] w fun r w'=>r=.returned (.bool (M.leads f e l))∧aa w w':=by
 have J:=h.ev e.to
 obtain⟨⟨z,ib,ts,K,L,A,q,-⟩,-⟩:=h
 have E:w.cell? ⟨j,0,none⟩=some (.int .i64 M.n):=by rw[cell_of_row w j 0 _ _ _ A];rfl
 have I:w.cell? ⟨j,1,none⟩=some (.pointer (some ⟨z,0,none⟩)):=by rw[cell_of_row w j 1 _ _ _ A];rfl
 refine(xu j z f e.tag e.to l M.n (an (look M.cs e.to)) (eZ (look M.cs e.to)) w s.1.1 s.1.2 J E I (fun j j=>lU (q.U j) e.to s.2.2)).mono ?_
 rintro r w' ⟨rfl,j⟩
 refine⟨?_,j⟩
 congr 2
 cases t:dY f e l M.n with
 |false=>simp[St.leads,t]
 |true=>
  by_cases q:e.to<2;·simp[St.leads,t,q]
  ·rw[xt M f e l t q];simp[q]

theorem ae.cell {F:Nat→Prop}{w w':World}(h:ae F w w'){a:Addr}{v:Value}(q:¬F a.block)(j:w.cell? a=some v):w'.cell? a=some v:=
 (World.cell?_of_block (h.block a.block (aD j) q)).trans j

theorem ae.frozen {F:Nat→Prop}{w w':World}(h:ae F w w'){a:Addr}(s:a.block<w.heap.size)(q:¬F a.block)(j:w.frozen? a=false):w'.frozen? a=false:=
 (World.frozen?_of_block (h.block a.block s q)).trans j

theorem ae.e4 {F:Nat→Prop}{w w1:World}(h:ae F w w1){k:Nat}(j:¬F k){a b c d e f g:Value}
  (J:w.cell? ⟨k,0,none⟩=some a∧w.cell? ⟨k,1,none⟩=some b∧w.cell? ⟨k,2,none⟩=some c∧w.cell? ⟨k,3,none⟩=some d∧w.cell? ⟨k,4,none⟩=some e∧w.cell? ⟨k,5,none⟩=some f∧w.cell? ⟨k,6,none⟩=some g) :
  w1.cell? ⟨k,0,none⟩=some a∧w1.cell? ⟨k,1,none⟩=some b∧w1.cell? ⟨k,2,none⟩=some c∧w1.cell? ⟨k,3,none⟩=some d∧w1.cell? ⟨k,4,none⟩=some e∧w1.cell? ⟨k,5,none⟩=some f∧w1.cell? ⟨k,6,none⟩=some g:=by
 obtain⟨q,s,t,z,A,E,I⟩:=J
 exact⟨h.cell j q,h.cell j s,h.cell j t,h.cell j z,h.cell j A,h.cell j E,h.cell j I⟩

theorem Ag (j ib:Nat)(r:Rec)(id:Int)(n:Int)(I:Value)(w:World)
  (z:w.cell? ⟨j,0,none⟩=some (.int .i64 n)) (J:w.cell? ⟨j,1,none⟩=some I) (K:w.cell? ⟨j,2,none⟩=some (.pointer (some ⟨ib,0,none⟩)))
  (A:∀q,aa w q→Calls Tryz.prog 135 #[.pointer (some ⟨ib,0,none⟩),.agg #[.int .u8 r.ad,.int .u8 r.I,.int .u8 r.J,.int .u8 r.lo.tag,.int .u32 r.lo.to,.int .u8 r.hi.tag,.int .u32 r.hi.to]] q fun e w'=>e=.returned (.tuple #[.int .u32 id,.bool true])∧aa q w') :
  Calls Tryz.prog 80 #[.pointer (some ⟨j,0,none⟩),.agg #[.int .u8 r.ad,.int .u8 r.I,.int .u8 r.J,.int .u8 r.lo.tag,.int .u32 r.lo.to,.int .u8 r.hi.tag,.int .u32 r.hi.to]] w fun e w'=>e=.returned (.tuple #[.int .u32 id,.int .u8 0])∧aa w w':=by
 have q:j<w.heap.size:=aD z
 have E:=Lib.hid A
 clear A
 go_enter Tryz.func80,Tryz.ntmps80
 go_wp2_with fail
 go_region_held3 (fun w'=>w'.cell? ⟨j,2,none⟩=some (.pointer (some ⟨ib,0,none⟩))∧(w'.cell? ⟨w.heap.size,0,none⟩=some (.int .u8 r.ad)∧w'.cell? ⟨w.heap.size,1,none⟩=some (.int .u8 r.I)∧w'.cell? ⟨w.heap.size,2,none⟩=some (.int .u8 r.J)∧w'.cell? ⟨w.heap.size,3,none⟩=some (.int .u8 r.lo.tag)∧w'.cell? ⟨w.heap.size,4,none⟩=some (.int .u32 r.lo.to)∧w'.cell? ⟨w.heap.size,5,none⟩=some (.int .u8 r.hi.tag)∧w'.cell? ⟨w.heap.size,6,none⟩=some (.int .u32 r.hi.to))) (go_keep) ((first|(go_at_call 135;refine(E.out _ (by(exact kp))).mono ?_;rintro e w1 ⟨rfl,q⟩;have t:aa (w.alloc (.cells #[.int .u8 r.ad,.int .u8 r.I,.int .u8 r.J,.int .u8 r.lo.tag,.int .u32 r.lo.to,.int .u8 r.hi.tag,.int .u32 r.hi.to] 134)) w1:=(by(exact kp));obtain⟨j,q,A,E,I,N,O⟩:=fQ t;have s:aa w w1:=(((aa.refl _).alloc _).trans t);have L:=t.size;simp only[World.size_alloc]at L;have j:=s.cell z;have j:=s.cell J;have j:=s.cell K)))
 all_goals(go_wp2;go_ret2;exact⟨rfl,by(exact kp)⟩)

theorem Ac (q ib:Nat)(r:Rec)(ad:0≤r.J)(am:r.J≤255)(n:Int)(K:Value)(w:World)
  (z:w.cell? ⟨q,0,none⟩=some (.int .i64 n)) (L:w.cell? ⟨q,1,none⟩=some K) (N:w.cell? ⟨q,2,none⟩=some (.pointer (some ⟨ib,0,none⟩)))
  (A:∀j,aa w j→Calls Tryz.prog 135 #[.pointer (some ⟨ib,0,none⟩),.agg #[.int .u8 r.ad,.int .u8 r.I,.int .u8 r.J,.int .u8 r.lo.tag,.int .u32 r.lo.to,.int .u8 r.hi.tag,.int .u32 r.hi.to]] j fun e w'=>e=.returned (.tuple #[.int .u32 0,.bool false])∧aa j w')
  (E:∀j,Calls Tryz.prog 136 #[.agg #[.int .u8 r.ad,.int .u8 r.I,.int .u8 r.J,.int .u8 r.lo.tag,.int .u32 r.lo.to,.int .u8 r.hi.tag,.int .u32 r.hi.to],.int .i64 n] j fun e w'=>e=.returned (.bool false)∧aa j w')
  : Calls Tryz.prog 80 #[.pointer (some ⟨q,0,none⟩),.agg #[.int .u8 r.ad,.int .u8 r.I,.int .u8 r.J,.int .u8 r.lo.tag,.int .u32 r.lo.to,.int .u8 r.hi.tag,.int .u32 r.hi.to]] w fun e w'=>e=.returned (.tuple #[.int .u32 0,.int .u8 1])∧aa w w':=by
 have j:q<w.heap.size:=aD z
 have I:=Lib.hid A
 have J:=Lib.hid E
 clear A E
 go_enter Tryz.func80,Tryz.ntmps80
 go_wp2_with fail
 go_region_held3 (fun w'=>w'.cell? ⟨q,2,none⟩=some (.pointer (some ⟨ib,0,none⟩))∧(w'.cell? ⟨w.heap.size,0,none⟩=some (.int .u8 r.ad)∧w'.cell? ⟨w.heap.size,1,none⟩=some (.int .u8 r.I)∧w'.cell? ⟨w.heap.size,2,none⟩=some (.int .u8 r.J)∧w'.cell? ⟨w.heap.size,3,none⟩=some (.int .u8 r.lo.tag)∧w'.cell? ⟨w.heap.size,4,none⟩=some (.int .u32 r.lo.to)∧w'.cell? ⟨w.heap.size,5,none⟩=some (.int .u8 r.hi.tag)∧w'.cell? ⟨w.heap.size,6,none⟩=some (.int .u32 r.hi.to))) (go_keep) ((first|(go_at_call 135;refine(I.out _ (by(exact kp))).mono ?_;rintro e w1 ⟨rfl,j⟩;have t:aa (w.alloc (.cells #[.int .u8 r.ad,.int .u8 r.I,.int .u8 r.J,.int .u8 r.lo.tag,.int .u32 r.lo.to,.int .u8 r.hi.tag,.int .u32 r.hi.to] 134)) w1:=(by(exact kp));obtain⟨T,U,W,X,Y,Z,ab⟩:=fQ t;have s:aa w w1:=(((aa.refl _).alloc _).trans t);have S:=t.size;simp only[World.size_alloc]at S;have O:=s.cell z;have j:=s.cell L;have j:=s.cell N)))
 go_wp2_with fail
 have j:=aj.cell O
 have j:=aj.cell T
 have j:=aj.cell U
 have j:=aj.cell W
 have j:=aj.cell X
 have j:=aj.cell Y
 have j:=aj.cell Z
 have j:=aj.cell ab
 refine dT (w1) (by kernel_rfl) (by kernel_rfl) (by(exact kp)) ?_;(repeat (go_big_quiet_step ((first|(go_at_call 136;refine Calls.b5 (J.out _))))));refine wpQuiet_nil ?_;rintro j ⟨⟨_,av⟩,rfl⟩;try dsimp only
 go_wp2
 go_ret2
 exact⟨rfl,by(exact kp)⟩

theorem Ad (q ib:Nat)(r:Rec)(av:0≤r.J)(aw:r.J≤255)(n:Int)(N:Value)(w:World)
  (z:w.cell? ⟨q,0,none⟩=some (.int .i64 n)) (O:w.cell? ⟨q,1,none⟩=some N) (S:w.cell? ⟨q,2,none⟩=some (.pointer (some ⟨ib,0,none⟩)))
  (A:∀j,aa w j→Calls Tryz.prog 135 #[.pointer (some ⟨ib,0,none⟩),.agg #[.int .u8 r.ad,.int .u8 r.I,.int .u8 r.J,.int .u8 r.lo.tag,.int .u32 r.lo.to,.int .u8 r.hi.tag,.int .u32 r.hi.to]] j fun e w'=>e=.returned (.tuple #[.int .u32 0,.bool false])∧aa j w')
  (I:∀j,Calls Tryz.prog 136 #[.agg #[.int .u8 r.ad,.int .u8 r.I,.int .u8 r.J,.int .u8 r.lo.tag,.int .u32 r.lo.to,.int .u8 r.hi.tag,.int .u32 r.hi.to],.int .i64 n] j fun e w'=>e=.returned (.bool true)∧aa j w')
  (E:∀j,aa w j→Calls Tryz.prog 134 #[.pointer (some ⟨q,0,none⟩),.int .u8 r.ad,.agg #[.int .u8 r.lo.tag,.int .u32 r.lo.to],.int .i64 (r.J+1)] j fun e w'=>e=.returned (.bool false)∧aa j w')
  : Calls Tryz.prog 80 #[.pointer (some ⟨q,0,none⟩),.agg #[.int .u8 r.ad,.int .u8 r.I,.int .u8 r.J,.int .u8 r.lo.tag,.int .u32 r.lo.to,.int .u8 r.hi.tag,.int .u32 r.hi.to]] w fun e w'=>e=.returned (.tuple #[.int .u32 0,.int .u8 1])∧aa w w':=by
 have j:q<w.heap.size:=aD z
 have J:=Lib.hid A
 have L:=Lib.hid I
 have K:=Lib.hid E
 clear A I E
 go_enter Tryz.func80,Tryz.ntmps80
 go_wp2_with fail
 go_region_held3 (fun w'=>w'.cell? ⟨q,2,none⟩=some (.pointer (some ⟨ib,0,none⟩))∧(w'.cell? ⟨w.heap.size,0,none⟩=some (.int .u8 r.ad)∧w'.cell? ⟨w.heap.size,1,none⟩=some (.int .u8 r.I)∧w'.cell? ⟨w.heap.size,2,none⟩=some (.int .u8 r.J)∧w'.cell? ⟨w.heap.size,3,none⟩=some (.int .u8 r.lo.tag)∧w'.cell? ⟨w.heap.size,4,none⟩=some (.int .u32 r.lo.to)∧w'.cell? ⟨w.heap.size,5,none⟩=some (.int .u8 r.hi.tag)∧w'.cell? ⟨w.heap.size,6,none⟩=some (.int .u32 r.hi.to))) (go_keep) ((first|(go_at_call 135;refine(J.out _ (by(exact kp))).mono ?_;rintro e w1 ⟨rfl,j⟩;have t:aa (w.alloc (.cells #[.int .u8 r.ad,.int .u8 r.I,.int .u8 r.J,.int .u8 r.lo.tag,.int .u32 r.lo.to,.int .u8 r.hi.tag,.int .u32 r.hi.to] 134)) w1:=(by(exact kp));obtain⟨W,X,Y,Z,ab,ad,am⟩:=fQ t;have s:aa w w1:=(((aa.refl _).alloc _).trans t);have U:=t.size;simp only[World.size_alloc]at U;have T:=s.cell z;have j:=s.cell O;have j:=s.cell S)))
 go_wp2_with fail
 have j:=aj.cell T
 have j:=aj.cell W
 have j:=aj.cell X
 have j:=aj.cell Y
 have j:=aj.cell Z
 have j:=aj.cell ab
 have j:=aj.cell ad
 have j:=aj.cell am
 refine dT (w1) (by kernel_rfl) (by kernel_rfl) (by(exact kp)) ?_;(repeat (go_big_quiet_step ((first|(go_at_call 136;refine Calls.b5 (L.out _))|(go_at_call 134;with_reducible refine Calls.b5 (K.out _ (s.trans (aj.a5 _))))))));refine wpQuiet_nil ?_;rintro j ⟨⟨_,a1⟩,rfl⟩;try dsimp only
 go_wp2
 go_ret2
 exact⟨rfl,by(exact kp)⟩

theorem Ae (q ib:Nat)(r:Rec)(a1:0≤r.J)(a2:r.J≤255)(n:Int)(S:Value)(w:World)
  (z:w.cell? ⟨q,0,none⟩=some (.int .i64 n)) (T:w.cell? ⟨q,1,none⟩=some S) (U:w.cell? ⟨q,2,none⟩=some (.pointer (some ⟨ib,0,none⟩)))
  (A:∀j,aa w j→Calls Tryz.prog 135 #[.pointer (some ⟨ib,0,none⟩),.agg #[.int .u8 r.ad,.int .u8 r.I,.int .u8 r.J,.int .u8 r.lo.tag,.int .u32 r.lo.to,.int .u8 r.hi.tag,.int .u32 r.hi.to]] j fun e w'=>e=.returned (.tuple #[.int .u32 0,.bool false])∧aa j w')
  (J:∀j,Calls Tryz.prog 136 #[.agg #[.int .u8 r.ad,.int .u8 r.I,.int .u8 r.J,.int .u8 r.lo.tag,.int .u32 r.lo.to,.int .u8 r.hi.tag,.int .u32 r.hi.to],.int .i64 n] j fun e w'=>e=.returned (.bool true)∧aa j w')
  (I:∀j,aa w j→Calls Tryz.prog 134 #[.pointer (some ⟨q,0,none⟩),.int .u8 r.ad,.agg #[.int .u8 r.lo.tag,.int .u32 r.lo.to],.int .i64 (r.J+1)] j fun e w'=>e=.returned (.bool true)∧aa j w')
  (E:∀j,aa w j→Calls Tryz.prog 134 #[.pointer (some ⟨q,0,none⟩),.int .u8 r.ad,.agg #[.int .u8 r.hi.tag,.int .u32 r.hi.to],.int .i64 (r.J+1)] j fun e w'=>e=.returned (.bool false)∧aa j w')
  : Calls Tryz.prog 80 #[.pointer (some ⟨q,0,none⟩),.agg #[.int .u8 r.ad,.int .u8 r.I,.int .u8 r.J,.int .u8 r.lo.tag,.int .u32 r.lo.to,.int .u8 r.hi.tag,.int .u32 r.hi.to]] w fun e w'=>e=.returned (.tuple #[.int .u32 0,.int .u8 1])∧aa w w':=by
 have j:q<w.heap.size:=aD z
 have K:=Lib.hid A
 have O:=Lib.hid J
 have N:=Lib.hid I
 have L:=Lib.hid E
 clear A J I E
 go_enter Tryz.func80,Tryz.ntmps80
 go_wp2_with fail
 go_region_held3 (fun w'=>w'.cell? ⟨q,2,none⟩=some (.pointer (some ⟨ib,0,none⟩))∧(w'.cell? ⟨w.heap.size,0,none⟩=some (.int .u8 r.ad)∧w'.cell? ⟨w.heap.size,1,none⟩=some (.int .u8 r.I)∧w'.cell? ⟨w.heap.size,2,none⟩=some (.int .u8 r.J)∧w'.cell? ⟨w.heap.size,3,none⟩=some (.int .u8 r.lo.tag)∧w'.cell? ⟨w.heap.size,4,none⟩=some (.int .u32 r.lo.to)∧w'.cell? ⟨w.heap.size,5,none⟩=some (.int .u8 r.hi.tag)∧w'.cell? ⟨w.heap.size,6,none⟩=some (.int .u32 r.hi.to))) (go_keep) ((first|(go_at_call 135;refine(K.out _ (by(exact kp))).mono ?_;rintro e w1 ⟨rfl,j⟩;have t:aa (w.alloc (.cells #[.int .u8 r.ad,.int .u8 r.I,.int .u8 r.J,.int .u8 r.lo.tag,.int .u32 r.lo.to,.int .u8 r.hi.tag,.int .u32 r.hi.to] 134)) w1:=(by(exact kp));obtain⟨Y,Z,ab,ad,am,av,aw⟩:=fQ t;have s:aa w w1:=(((aa.refl _).alloc _).trans t);have X:=t.size;simp only[World.size_alloc]at X;have W:=s.cell z;have j:=s.cell T;have j:=s.cell U)))
 go_wp2_with fail
 have j:=aj.cell W
 have j:=aj.cell Y
 have j:=aj.cell Z
 have j:=aj.cell ab
 have j:=aj.cell ad
 have j:=aj.cell am
 have j:=aj.cell av
 have j:=aj.cell aw
 refine dT (w1) (by kernel_rfl) (by kernel_rfl) (by(exact kp)) ?_;(repeat (go_big_quiet_step ((first|(go_at_call 136;refine Calls.b5 (O.out _))|(go_at_call 134;with_reducible refine Calls.b5 (N.out _ (s.trans (aj.a5 _))))|(go_at_call 134;with_reducible refine Calls.b5 (L.out _ (s.trans (aj.a5 _))))))));refine wpQuiet_nil ?_;rintro j ⟨⟨_,a3⟩,rfl⟩;try dsimp only
 go_wp2
 go_ret2
 exact⟨rfl,by(exact kp)⟩

theorem Af (t ib:Nat)(r:Rec)(a7:0≤r.J)(a8:r.J≤255)(n:Int)(A:Nat)(w:World)
  (I:w.cell? ⟨t,0,none⟩=some (.int .i64 n)) (a2:w.cell? ⟨t,1,none⟩=some (.pointer (some ⟨A,0,none⟩))) (a3:w.cell? ⟨t,2,none⟩=some (.pointer (some ⟨ib,0,none⟩)))
  (J:∀j,aa w j→Calls Tryz.prog 135 #[.pointer (some ⟨ib,0,none⟩),.agg #[.int .u8 r.ad,.int .u8 r.I,.int .u8 r.J,.int .u8 r.lo.tag,.int .u32 r.lo.to,.int .u8 r.hi.tag,.int .u32 r.hi.to]] j fun e w'=>e=.returned (.tuple #[.int .u32 0,.bool false])∧aa j w')
  (S:∀j,Calls Tryz.prog 136 #[.agg #[.int .u8 r.ad,.int .u8 r.I,.int .u8 r.J,.int .u8 r.lo.tag,.int .u32 r.lo.to,.int .u8 r.hi.tag,.int .u32 r.hi.to],.int .i64 n] j fun e w'=>e=.returned (.bool true)∧aa j w')
  (N:∀j,aa w j→Calls Tryz.prog 134 #[.pointer (some ⟨t,0,none⟩),.int .u8 r.ad,.agg #[.int .u8 r.lo.tag,.int .u32 r.lo.to],.int .i64 (r.J+1)] j fun e w'=>e=.returned (.bool true)∧aa j w')
  (K:∀j,aa w j→Calls Tryz.prog 134 #[.pointer (some ⟨t,0,none⟩),.int .u8 r.ad,.agg #[.int .u8 r.hi.tag,.int .u32 r.hi.to],.int .i64 (r.J+1)] j fun e w'=>e=.returned (.bool true)∧aa j w')
  (O:∀j,aa w j→Calls Tryz.prog 137 #[.pointer (some ⟨A,0,none⟩),.agg #[.int .u8 r.ad,.int .u8 r.I,.int .u8 r.J,.int .u8 r.lo.tag,.int .u32 r.lo.to,.int .u8 r.hi.tag,.int .u32 r.hi.to]] j fun e w'=>e=.returned (.tuple #[.int .u32 0,.bool false])∧aa j w') :
  Calls Tryz.prog 80 #[.pointer (some ⟨t,0,none⟩),.agg #[.int .u8 r.ad,.int .u8 r.I,.int .u8 r.J,.int .u8 r.lo.tag,.int .u32 r.lo.to,.int .u8 r.hi.tag,.int .u32 r.hi.to]] w fun e w'=>e=.returned (.tuple #[.int .u32 0,.int .u8 6])∧aa w w':=by
 have aw:=Lib.hid O
 clear O
 have j:t<w.heap.size:=aD I
 have ad:=Lib.hid J
 have a1:=Lib.hid S
 have av:=Lib.hid N
 have am:=Lib.hid K
 clear J S N K
 go_enter Tryz.func80,Tryz.ntmps80
 go_wp2_with fail
 go_region_held3 (fun w'=>w'.cell? ⟨t,2,none⟩=some (.pointer (some ⟨ib,0,none⟩))∧(w'.cell? ⟨w.heap.size,0,none⟩=some (.int .u8 r.ad)∧w'.cell? ⟨w.heap.size,1,none⟩=some (.int .u8 r.I)∧w'.cell? ⟨w.heap.size,2,none⟩=some (.int .u8 r.J)∧w'.cell? ⟨w.heap.size,3,none⟩=some (.int .u8 r.lo.tag)∧w'.cell? ⟨w.heap.size,4,none⟩=some (.int .u32 r.lo.to)∧w'.cell? ⟨w.heap.size,5,none⟩=some (.int .u8 r.hi.tag)∧w'.cell? ⟨w.heap.size,6,none⟩=some (.int .u32 r.hi.to))) (go_keep) ((first|(go_at_call 135;refine(ad.out _ (by(exact kp))).mono ?_;rintro e w1 ⟨rfl,j⟩;have E:aa (w.alloc (.cells #[.int .u8 r.ad,.int .u8 r.I,.int .u8 r.J,.int .u8 r.lo.tag,.int .u32 r.lo.to,.int .u8 r.hi.tag,.int .u32 r.hi.to] 134)) w1:=(by(exact kp));obtain⟨T,U,W,X,Y,Z,ab⟩:=fQ E;have z:aa w w1:=(((aa.refl _).alloc _).trans E);have a6:=E.size;simp only[World.size_alloc]at a6;have a4:=z.cell I;have a5:=z.cell a2;have j:=z.cell a3)))
 go_wp2_with fail
 have j:=aj.cell a4
 have j:=aj.cell T
 have j:=aj.cell U
 have j:=aj.cell W
 have j:=aj.cell X
 have j:=aj.cell Y
 have j:=aj.cell Z
 have j:=aj.cell ab
 refine dT (w1) (by kernel_rfl) (by kernel_rfl) (by(exact kp)) ?_;(repeat (go_big_quiet_step ((first|(go_at_call 136;refine Calls.b5 (a1.out _))|(go_at_call 134;with_reducible refine Calls.b5 (av.out _ (z.trans (aj.a5 _))))|(go_at_call 134;with_reducible refine Calls.b5 (am.out _ (z.trans (aj.a5 _))))))));refine wpQuiet_nil ?_;rintro q ⟨⟨_,s⟩,rfl⟩;try dsimp only
 go_wp2_with fail
 have L:aa w q:=z.trans s
 have j:∀x:aj q,x.w.cell? ⟨t,1,none⟩=some (.pointer (some ⟨A,0,none⟩)):=aj.cell (s.cell a5)
 have j:∀x:aj q,x.w.cell? _=_:=aj.cell (s.cell T)
 have j:∀x:aj q,x.w.cell? _=_:=aj.cell (s.cell U)
 have j:∀x:aj q,x.w.cell? _=_:=aj.cell (s.cell W)
 have j:∀x:aj q,x.w.cell? _=_:=aj.cell (s.cell X)
 have j:∀x:aj q,x.w.cell? _=_:=aj.cell (s.cell Y)
 have j:∀x:aj q,x.w.cell? _=_:=aj.cell (s.cell Z)
 have j:∀x:aj q,x.w.cell? _=_:=aj.cell (s.cell ab)
 refine dT (q) (by kernel_rfl) (by kernel_rfl) (by(exact kp)) ?_;(repeat (go_big_quiet_step ((first|(go_at_call 137;refine Calls.b5 (aw.out _ (L.trans (aj.a5 _))))))));refine wpQuiet_nil ?_;rintro q ⟨⟨_,s⟩,rfl⟩;try dsimp only
 go_wp2
 go_ret2
 exact⟨rfl,L.trans (by assumption)⟩

theorem Ah (q ib:Nat)(r:Rec)(c2:0≤r.J)(c3:r.J≤255)(n:Int)(L:Nat)(w:World)
  (W:w.cell? ⟨q,0,none⟩=some (.int .i64 n)) (bv:w.cell? ⟨q,1,none⟩=some (.pointer (some ⟨L,0,none⟩))) (bw:w.cell? ⟨q,2,none⟩=some (.pointer (some ⟨ib,0,none⟩)))
  (Z:∀j,aa w j→Calls Tryz.prog 135 #[.pointer (some ⟨ib,0,none⟩),.agg #[.int .u8 r.ad,.int .u8 r.I,.int .u8 r.J,.int .u8 r.lo.tag,.int .u32 r.lo.to,.int .u8 r.hi.tag,.int .u32 r.hi.to]] j fun e w'=>e=.returned (.tuple #[.int .u32 0,.bool false])∧aa j w')
  (a2:∀j,Calls Tryz.prog 136 #[.agg #[.int .u8 r.ad,.int .u8 r.I,.int .u8 r.J,.int .u8 r.lo.tag,.int .u32 r.lo.to,.int .u8 r.hi.tag,.int .u32 r.hi.to],.int .i64 n] j fun e w'=>e=.returned (.bool true)∧aa j w')
  (av:∀j,aa w j→Calls Tryz.prog 134 #[.pointer (some ⟨q,0,none⟩),.int .u8 r.ad,.agg #[.int .u8 r.lo.tag,.int .u32 r.lo.to],.int .i64 (r.J+1)] j fun e w'=>e=.returned (.bool true)∧aa j w')
  (ab:∀j,aa w j→Calls Tryz.prog 134 #[.pointer (some ⟨q,0,none⟩),.int .u8 r.ad,.agg #[.int .u8 r.hi.tag,.int .u32 r.hi.to],.int .i64 (r.J+1)] j fun e w'=>e=.returned (.bool true)∧aa j w')
  (id:Int) (z I:Nat→Prop) (Y:∀k,z k→k<w.heap.size) (hi:∀k,I k→k<w.heap.size) (has:¬z q) (ad:¬I q) (K U:World→World→Prop)
  (aw:∀j,aa w j→Calls Tryz.prog 137 #[.pointer (some ⟨L,0,none⟩),.agg #[.int .u8 r.ad,.int .u8 r.I,.int .u8 r.J,.int .u8 r.lo.tag,.int .u32 r.lo.to,.int .u8 r.hi.tag,.int .u32 r.hi.to]] j fun e w'=>e=.returned (.tuple #[.int .u32 id,.bool true])∧ae z j w'∧K j w')
  (a1:∀j t s,aa w j→ae z j t→K j t→aa t s→Calls Tryz.prog 138 #[.pointer (some ⟨ib,0,none⟩),.agg #[.int .u8 r.ad,.int .u8 r.I,.int .u8 r.J,.int .u8 r.lo.tag,.int .u32 r.lo.to,.int .u8 r.hi.tag,.int .u32 r.hi.to],.int .u32 id] s fun e w'=>e=.returned (.tuple #[.int .u32 0,.bool false])∧ae I s w'∧U s w') :
  Calls Tryz.prog 80 #[.pointer (some ⟨q,0,none⟩),.agg #[.int .u8 r.ad,.int .u8 r.I,.int .u8 r.J,.int .u8 r.lo.tag,.int .u32 r.lo.to,.int .u8 r.hi.tag,.int .u32 r.hi.to]] w fun e w'=>e=.returned (.tuple #[.int .u32 id,.int .u8 0]) ∧
   ∃j t s,aa w j∧ae z j t∧K j t∧aa t s∧ae I s w'∧U s w':=by
 have br:=Lib.hid aw
 have bs:=Lib.hid a1
 have be:=Lib.hid Y
 have T:=Lib.hid has
 have bg:=Lib.hid hi
 have bi:=Lib.hid ad
 clear aw a1 Y hi has ad
 have j:q<w.heap.size:=aD W
 have bn:=Lib.hid Z
 have bt:=Lib.hid a2
 have bq:=Lib.hid av
 have bp:=Lib.hid ab
 clear Z a2 av ab
 go_enter Tryz.func80,Tryz.ntmps80
 go_wp2_with fail
 go_region_held3 (fun w'=>w'.cell? ⟨q,2,none⟩=some (.pointer (some ⟨ib,0,none⟩))∧(w'.cell? ⟨w.heap.size,0,none⟩=some (.int .u8 r.ad)∧w'.cell? ⟨w.heap.size,1,none⟩=some (.int .u8 r.I)∧w'.cell? ⟨w.heap.size,2,none⟩=some (.int .u8 r.J)∧w'.cell? ⟨w.heap.size,3,none⟩=some (.int .u8 r.lo.tag)∧w'.cell? ⟨w.heap.size,4,none⟩=some (.int .u32 r.lo.to)∧w'.cell? ⟨w.heap.size,5,none⟩=some (.int .u8 r.hi.tag)∧w'.cell? ⟨w.heap.size,6,none⟩=some (.int .u32 r.hi.to))) (go_keep) ((first|(go_at_call 135;refine(bn.out _ (by(exact kp))).mono ?_;rintro e w1 ⟨rfl,b7⟩;have O:aa (w.alloc (.cells #[.int .u8 r.ad,.int .u8 r.I,.int .u8 r.J,.int .u8 r.lo.tag,.int .u32 r.lo.to,.int .u8 r.hi.tag,.int .u32 r.hi.to] 134)) w1:=(by(exact kp));obtain⟨a4,a5,a6,a7,a8,a',bb⟩:=fQ O;have A:aa w w1:=(((aa.refl _).alloc _).trans O);have a3:=O.size;simp only[World.size_alloc]at a3;have bx:=A.cell W;have b1:=A.cell bv;have b3:=A.cell bw)))
 go_wp2_with fail
 have b0:=aj.cell bx
 have ci:=aj.cell a4
 have cj:=aj.cell a5
 have cl:=aj.cell a6
 have cn:=aj.cell a7
 have co:=aj.cell a8
 have cp:=aj.cell a'
 have cq:=aj.cell bb
 refine dT (w1) (by kernel_rfl) (by kernel_rfl) (by(exact kp)) ?_;(repeat (go_big_quiet_step ((first|(go_at_call 136;refine Calls.b5 (bt.out _))|(go_at_call 134;with_reducible refine Calls.b5 (bq.out _ (A.trans (aj.a5 _))))|(go_at_call 134;with_reducible refine Calls.b5 (bp.out _ (A.trans (aj.a5 _))))))));refine wpQuiet_nil ?_;rintro S ⟨⟨_,E⟩,rfl⟩;try dsimp only
 go_wp2_with fail
 have am:aa w S:=A.trans E
 have b2:=E.cell b1
 have b4:=E.cell b3
 obtain⟨cv,cx,cy,cD,cS,c0,c1⟩:=E.e4 ⟨a4,a5,a6,a7,a8,a',bb⟩
 clear b0 ci cj cl cn co cp cq b7
 have j:w.heap.size<S.heap.size:=by have:=E.size;omega
 have j:q<S.heap.size:=by have:=E.size;omega
 have b8:¬z w.heap.size:=fun h=>by have:=be.out _ h;omega
 have b9:¬I w.heap.size:=fun h=>by have:=bg.out _ h;omega
 clear a3
 go_region_held3 (fun w'=>w'.cell? ⟨q,1,none⟩=some (.pointer (some ⟨L,0,none⟩))∧(w'.cell? ⟨w.heap.size,0,none⟩=some (.int .u8 r.ad)∧w'.cell? ⟨w.heap.size,1,none⟩=some (.int .u8 r.I)∧w'.cell? ⟨w.heap.size,2,none⟩=some (.int .u8 r.J)∧w'.cell? ⟨w.heap.size,3,none⟩=some (.int .u8 r.lo.tag)∧w'.cell? ⟨w.heap.size,4,none⟩=some (.int .u32 r.lo.to)∧w'.cell? ⟨w.heap.size,5,none⟩=some (.int .u8 r.hi.tag)∧w'.cell? ⟨w.heap.size,6,none⟩=some (.int .u32 r.hi.to))) (go_keep) ((first|(go_at_call 137;refine(br.out _ (by(exact kp))).mono ?_;rintro e j ⟨rfl,J,X⟩;have j:=J.cell (a:=⟨q,1,none⟩) T.out b2;have b5:=J.cell (a:=⟨q,2,none⟩) T.out b4;obtain⟨ca,cb,cd,ce,cf,cg,ch⟩:=J.e4 b8 ⟨cv,cx,cy,cD,cS,c0,c1⟩)))
 go_wp2_with fail
 go_region_held3 (fun w'=>w'.cell? ⟨q,2,none⟩=some (.pointer (some ⟨ib,0,none⟩))∧(w'.cell? ⟨w.heap.size,0,none⟩=some (.int .u8 r.ad)∧w'.cell? ⟨w.heap.size,1,none⟩=some (.int .u8 r.I)∧w'.cell? ⟨w.heap.size,2,none⟩=some (.int .u8 r.J)∧w'.cell? ⟨w.heap.size,3,none⟩=some (.int .u8 r.lo.tag)∧w'.cell? ⟨w.heap.size,4,none⟩=some (.int .u32 r.lo.to)∧w'.cell? ⟨w.heap.size,5,none⟩=some (.int .u8 r.hi.tag)∧w'.cell? ⟨w.heap.size,6,none⟩=some (.int .u32 r.hi.to))) (go_keep) ((first|(go_at_call 138;refine(bs.out _ _ _ am.drew J X (by(exact kp))).mono ?_;rintro e j ⟨rfl,N,b6⟩;have j:=N.cell (a:=⟨q,2,none⟩) bi.out b5;obtain⟨j,s,t,z,A,E,I⟩:=N.e4 b9 ⟨ca,cb,cd,ce,cf,cg,ch⟩)))
 go_wp2
 go_ret2
 exact⟨rfl,_,_,_,am.drew,J,X,(aa.refl _).drew,N,b6⟩

theorem jQ {F:Nat→Prop}{w:World}{t:Nat}{M:St}(h:ag F w t M)(r:Rec)(O:r.ok) :
  Calls Tryz.prog 80 #[.pointer (some ⟨t,0,none⟩),.agg #[.int .u8 r.ad,.int .u8 r.I,.int .u8 r.J,.int .u8 r.lo.tag,.int .u32 r.lo.to,.int .u8 r.hi.tag,.int .u32 r.hi.to]] w fun e w'=>
   e=.returned (.tuple #[.int .u32 (M.bg r),.int .u8 (M.a7 r)])∧ae F w w'∧ag (au F w w') w' t (M.a6 r):=by
 have b2:=fun(s:World) (A:aa w s) (e:Edge) (E:e.ok)=>cX (h.U A) r.ad e (r.J+1) E
 have bw:∀{e:Ending} {w':World} {i br:Int},M.a6 r=M→M.bg r=i→M.a7 r=br→e=.returned (.tuple #[.int .u32 i,.int .u8 br])∧aa w w' →
   e=.returned (.tuple #[.int .u32 (M.bg r),.int .u8 (M.a7 r)])∧ae F w w'∧ag (au F w w') w' t (M.a6 r):=by
  intro e w' i br K a1 bi ⟨bt,am⟩
  rw[K,a1,bi]
  have j:=h.U am
  obtain⟨⟨T,ib,ts,X,Y,a8,a',br,ci,cj,cl,cn,co⟩,b5,b6,b7⟩:=j
  refine⟨bt,am.av F,⟨⟨T,ib,ts,X,Y,a8,a',br,ci,cj,fun k j=>.inl (cl k j),fun k j=>.inl (cn k j),co⟩,.inl b5,fun k j=>?_,b7⟩⟩
  rcases j with j|j
  ·exact b6 k j
  ·exact j.2
 have a6:=h.wf
 have b3:∀id,look M.cs id=some r↔M.b4 r=some id:=fun id=>jz h.b2 r id
 obtain⟨⟨T,ib,ts,X,Y,K,a1,bi,bt,am,bn,bp,b0,bv,bs⟩,b9,aw,br⟩:=h
 have Z:w.cell? ⟨t,0,none⟩=some (.int .i64 M.n):=by rw[cell_of_row w t 0 _ _ _ K];rfl
 have ab:w.cell? ⟨t,1,none⟩=some (.pointer (some ⟨T,0,none⟩)):=by rw[cell_of_row w t 1 _ _ _ K];rfl
 have ad:w.cell? ⟨t,2,none⟩=some (.pointer (some ⟨ib,0,none⟩)):=by rw[cell_of_row w t 2 _ _ _ K];rfl
 have N:∀s,aa w s→Calls Tryz.prog 135 #[.pointer (some ⟨ib,0,none⟩),.agg #[.int .u8 r.ad,.int .u8 r.I,.int .u8 r.J,.int .u8 r.lo.tag,.int .u32 r.lo.to,.int .u8 r.hi.tag,.int .u32 r.hi.to]] s fun e w'=>e=.returned (.tuple #[.int .u32 ((M.b4 r).getD 0),.bool (M.b4 r).isSome])∧aa s w':=
  fun s A=>wz (bi.U A) r O (M.b4 r) (fun id=>(am r id).trans (b3 id))
 have a3:=O.J.1
 have a4:=O.J.2
 have S:=fun s=>zB r O M.n s
 cases hi:M.b4 r with
 |some id=>
  rw[hi]at N;refine(Ag t ib r id M.n _ w Z ab ad N).mono fun e w' E=>?_;exact bw (by unfold St.a6;rw[hi]) (by unfold St.bg;rw[hi]) (by unfold St.a7;rw[hi]) E
 |none=>
  rw[hi]at N;have W:=fun s A=>b2 s A r.lo O.lo;have a5:=fun s A=>b2 s A r.hi O.hi;cases z:M.bq r with
  |true=>
   have fin:∀{e:Ending} {w':World},e=.returned (.tuple #[.int .u32 0,.int .u8 1])∧aa w w'→e=.returned (.tuple #[.int .u32 (M.bg r),.int .u8 (M.a7 r)])∧ae F w w'∧ag (au F w w') w' t (M.a6 r):=
    bw (by unfold St.a6;rw[hi,z];rfl) (by unfold St.bg;rw[hi,z];rfl) (by unfold St.a7;rw[hi,z];rfl)
   unfold St.bq at z;cases br:gU r M.n with
   |false=>
    rw[br]at S;exact(Ac t ib r a3 a4 M.n _ w Z ab ad N S).mono fun e w' E=>fin E
   |true=>
    rw[br]at S z;cases br:M.leads r.ad r.lo (r.J+1)with
    |false=>
     rw[br]at W;exact(Ad t ib r a3 a4 M.n _ w Z ab ad N S W).mono fun e w' E=>fin E
    |true=>
     rw[br]at W z;have br:M.leads r.ad r.hi (r.J+1)=false:=(by simpa using z);rw[br]at a5;exact(Ae t ib r a3 a4 M.n _ w Z ab ad N S W a5).mono fun e w' E=>fin E
  |false=>
   have a2:=z;unfold St.bq at a2;simp only[Bool.or_eq_false_iff,Bool.not_eq_false']at a2;rw[a2.1.1]at S;rw[a2.1.2]at W;rw[a2.2]at a5;by_cases U:M.room≤M.len
   ·refine(Af t ib r a3 a4 M.n T w Z ab ad N S W a5 (fun s A=>sP (a1.U A) r U)).mono fun e w' E=>?_;exact bw (by unfold St.a6;rw[hi,z];simp[U]) (by unfold St.bg;rw[hi,z];simp[U]) (by unfold St.a7;rw[hi,z];simp[U]) E
   ·have b4:M.len<M.room:=(by omega);have ca:M.a6 r=M.add r:=(by unfold St.a6;rw[hi,z];simp[U,St.add]);have cb:M.bg r=dN M.gone M.cs.length:=(by unfold St.bg;rw[hi,z];simp[U]);have cd:M.a7 r=0:=(by unfold St.a7;rw[hi,z];simp[U]);obtain⟨b5,b6,b7⟩:=nc a6.gone;have E:=a1.bx;have E:=a6.gp;have E:=a6.g5
    have ce:∀I,¬ah.has ts r I:=fun I E=>by
     have:=(b3 I).1 ((am r I).1 E);rw[hi]at this;cases this
    refine(Ah t ib r a3 a4 M.n T w Z ab ad N S W a5 (dN M.gone M.cs.length) X Y (fun k j=>aw k (bn k j)) (fun k j=>aw k (bp k j)) bv bs
     (fun s J=>cO (au X s J) J T (cV M.cs M.gone r) M.gone.dropLast (M.len+1) M.room)
     (fun s J=>∃be,cQ (au Y s J) J ib be (M.len+1)∧M.len+1=(occ be:Int)∧∀bb I,ah.has be bb I↔(bb=r∧I=dN M.gone M.cs.length)∨ah.has ts bb I)
     (fun s A=>sO (a1.U A) r O b4) (fun s J bx a7 bg b8 av=>?_)).mono ?_
    ·have A:=((bi.U a7).a5 bg (fun k j L=>b0 k L j)).U av;exact wB A bt (by omega) r O _ (by omega) (by omega) ce
    ·rintro e w' ⟨rfl,s,J,bx,a7,bg,b8,av,bq,be,cf,cg,ch⟩;rw[ca,cb,cd];have A:=a7.size;have A:=bg.size;have A:=av.size;have A:=bq.size;have cp:ae F w w':=((((a7.av F).a' (bg.mono (fun k _ j=>bn k j))).a' (av.av F)).a' (bq.mono (fun k _ j=>bp k j)))
     have b1:∀k,au X s J k→¬Y k:=fun k j L=>by
      rcases j with j|j;·exact b0 k j L
      ·have:=aw k (bp k L);omega
     refine⟨rfl,cp,⟨⟨T,ib,be,au X s J,au Y bx w',?_,?_,?_,?_,?_,?_,?_,?_,?_,?_⟩,.inl b9,?_,?_⟩⟩
     ·have s:=aN K;show w'.heap[t]?=some (.cells #[.int .i64 M.n,_,_] _ _);rw[bq.block t (by omega) bs,av.block t (by omega),bg.block t (by omega) bv,a7.block t s];exact K
     ·rw[M.fg r];exact(b8.U av).a5 bq b1
     ·rw[M.fg r];exact cf
     ·rw[M.fg r];exact cg
     ·intro bb I;rw[ch,a6.fi r I bb,am];constructor
      ·rintro(⟨a8,a'⟩|q);·exact .inl ⟨a',a8⟩
       ·exact .inr q
      ·rintro(⟨a8,a'⟩|q);·exact .inl ⟨a',a8⟩
       ·exact .inr q
     ·intro k j;rcases j with j|j;·exact .inl (bn k j)
      ·exact .inr ⟨by omega,by omega⟩
     ·intro k j;rcases j with j|j;·exact .inl (bp k j)
      ·exact .inr ⟨by omega,by omega⟩
     ·intro k j L;rcases L with L|L;·exact b1 k j L
      ·rcases j with j|j
       ·have:=aw k (bn k j);omega
       ·omega
     ·rintro(j|j);·exact bv j
      ·have:=aN K;omega
     ·rintro(j|j);·exact bs j
      ·have:=aN K;omega
     ·intro k j;rcases j with j|j
      ·have:=aw k j;omega
      ·exact j.2
     ·exact a6.add hi z b4

def St.new (n room:Int):St:=⟨[],[],n,room⟩

theorem look_nil (id:Int):look [] id=none:=by unfold look;split<;>simp

theorem St.hv {n room:Int}(s:0≤n)(t:n≤16)(q:0≤room)(z:room≤1048576):(St.new n room).wf:=
 ⟨s,t,fun id hid=>by simp[St.new]at hid,by simp[St.new],fun id r j=>by simp[St.new,look_nil]at j,fun r id s j=>by simp[St.new,look_nil]at j,by simp[St.len,St.new],q,z,by simp[St.len,St.new];exact q⟩

theorem AO (n room:Int)(w:World)(A:0≤n)(E:n≤16)(t:0≤room)(q:room≤1048576) :
  Calls Tryz.prog 68 #[.int .i64 n,.int .i64 room] w fun e w'=>∃z F,e=.returned (.tuple #[.pointer (some ⟨z,0,none⟩),.int .u8 0])∧aa w w'∧(∀k,F k→w.heap.size≤k)∧ag F w' z (St.new n room):=by
 go_enter Tryz.func68,Tryz.ntmps68
 go_wp2_with (first|(go_at_call 116;refine(sN _ _ t q).mono ?_;rintro e w' ⟨rfl,rfl⟩)|(go_at_call 117;refine(wA _).mono ?_;rintro e w1 ⟨ib,rfl,K,j,I⟩))
 go_ret2
 refine⟨w1.heap.size,fun k=>w.heap.size≤k∧k<w1.heap.size+1,rfl,(((aa.refl w).alloc _).trans j).alloc _,fun k j=>j.1,?_⟩
 have O:=j.size
 simp only[World.size_alloc]at O K
 have J:(w1.alloc (.cells #[.int .i64 n,.pointer (some ⟨w.heap.size,0,none⟩),.pointer (some ⟨ib,0,none⟩)] 132)).heap[w.heap.size]?=some (.cells #[.slice none 0 0,.slice none 0 0,.int .i64 0,.int .i64 room] 194 (0,0)):=
  (aa.alloc (aa.refl w1) _).heap (j.heap (heap_alloc_new w _))
 refine⟨⟨w.heap.size,ib,List.replicate 8 none,fun k=>k=w.heap.size,fun k=>(w.alloc (.cells #[.slice none 0 0,.slice none 0 0,.int .i64 0,.int .i64 room] 194)).heap.size≤k∧k<w1.heap.size,heap_alloc_new w1 _,?_,?_,?_,?_,?_,?_,?_,?_,?_⟩,?_,?_,St.hv A E t q⟩
 ·refine⟨⟨_,_,J,?_,?_,?_,?_⟩,rfl,by simp[St.new],by simp[St.new,St.len],by simp[St.new,St.len],q,fun id hid=>by simp[St.new]at hid,fun r N=>by simp[St.new]at N⟩;·exact World.ownsRow_nil _ _ _ _
  ·exact World.ownsRow_nil _ _ _ _
  ·intro k j;simp[Value.ownBlock]at j
  ·intro k j;simp[Value.ownBlock]at j
 ·exact I.U ((aa.refl w1).alloc _)
 ·rw[(dI.empty aX 8).2.1];rfl
 ·intro r id;rw[show look (St.new n room).cs id=none from look_nil id];constructor;·intro s;exact((dI.empty aX 8).2.2 r id s).elim
  ·intro s;cases s
 ·intro k j;omega
 ·intro k j;simp only[World.size_alloc]at j;omega
 ·intro k j L;simp only[World.size_alloc]at L;omega
 ·omega
 ·omega
 ·omega
 ·intro k j;rw[World.size_alloc];exact j.2

end Go.Proofs.YtafkamlhimkbmaaGreat
