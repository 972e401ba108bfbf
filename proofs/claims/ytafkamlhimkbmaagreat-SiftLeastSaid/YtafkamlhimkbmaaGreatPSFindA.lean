/-
  How a store lies in memory; the walks of its small functions.
-/
import Derived.Test.YtafkamlhimkbmaaGreatPIPut
import Derived.Test.YtafkamlhimkbmaaGreatPStA
namespace Go.Proofs.YtafkamlhimkbmaaGreat
set_option maxRecDepth 1000000
set_option maxHeartbeats 8000000
set_option linter.unusedSimpArgs false
set_option linter.unusedVariables false
open Go.RowKit

structure ag (F:Nat→Prop)(w:World)(sb:Nat)(M:St):Prop where
 hU:∃ab ib ts Fa Fi,w.heap[sb]?=some (.cells #[.int .i64 M.n,.pointer (some ⟨ab,0,none⟩),.pointer (some ⟨ib,0,none⟩)] 132 (0,0)) ∧
  cM Fa w ab M.cs M.gone M.len M.room∧cO Fi w ib ts M.len∧M.len=(occ ts:Int)∧(∀r id,ah.has ts r id↔look M.cs id=some r) ∧
  (∀k,Fa k→F k)∧(∀k,Fi k→F k)∧(∀k,Fa k→¬Fi k)∧¬Fa sb∧¬Fi sb
 own:F sb
 lt:∀k,F k→k<w.heap.size
 wf:M.wf

theorem ag.a4 {F G:Nat→Prop}{w j:World}{t:Nat}{M:St}(h:ag F w t M)(q:ae G w j)(s:∀k,F k→¬G k):ag F j t M:=by
 obtain⟨⟨O,ib,ts,J,K,A,S,T,U,W,E,I,X⟩,z,L,N⟩:=h;exact⟨⟨O,ib,ts,J,K,(q.block t (aK A) (s _ z)).trans A,S.a4 q (fun k j=>s _ (E k j)),T.a4 q (fun k j=>s _ (I k j)),U,W,E,I,X⟩,z,fun k j=>Nat.lt_of_lt_of_le (L k j) q.size,N⟩

theorem ag.U {F:Nat→Prop}{w j:World}{q:Nat}{M:St}(h:ag F w q M)(s:aa w j):ag F j q M:=
 h.a4 (s.av (fun _=>False)) (fun _ _ h=>h)

theorem ag.b2 {F:Nat→Prop}{w:World}{j:Nat}{M:St}(h:ag F w j M):M.b2:=h.wf.b2

theorem ag.b1 {F:Nat→Prop}{w:World}{q:Nat}{M:St}(h:ag F w q M){id:Int}{r:Rec}(s:look M.cs id=some r):r.ok:=by
 obtain⟨⟨z,ib,ts,q,t,A,j,_⟩,_⟩:=h;obtain⟨_,_,q⟩:=bI s;exact j.b1 r (List.mem_of_getElem? q)

theorem Rec.hy:Rec.zero.ok:=⟨by decide,by decide,by decide,⟨by decide,by decide⟩,⟨by decide,by decide⟩⟩

theorem ag.ee {F:Nat→Prop}{w:World}{j:Nat}{M:St}(h:ag F w j M)(id:Int):(al (look M.cs id)).ok:=by
 cases j:look M.cs id with
 |none=>exact Rec.hy
 |some r=>exact h.b1 j

theorem nc {F:Nat→Prop}{w:World}{j:Nat}{M:St}(h:ag F w j M) :
  Calls Tryz.prog 21 #[.pointer (some ⟨j,0,none⟩)] w fun e t=>e=.returned (.int .i64 M.len)∧w=t:=by
 obtain⟨⟨z,ib,ts,A,E,q,s,-⟩,-⟩:=h
 have A:w.cell? ⟨j,1,none⟩=some (.pointer (some ⟨z,0,none⟩)):=by rw[cell_of_row w j 1 _ _ _ q];rfl
 have H:=Lib.hid (sf s)
 clear q s
 go_enter Tryz.func21,Tryz.ntmps21
 go_wp2_with (go_at_call 65;refine H.out.mono ?_;rintro e t ⟨rfl,rfl⟩)
 go_ret
 exact⟨rfl,rfl⟩

theorem dz {F:Nat→Prop}{w:World}{j:Nat}{M:St}(h:ag F w j M) :
  Calls Tryz.prog 48 #[.pointer (some ⟨j,0,none⟩)] w fun e t=>e=.returned (.int .i64 M.n)∧w=t:=by
 obtain⟨⟨A,ib,ts,t,z,q,s,-⟩,-⟩:=h
 have t:w.cell? ⟨j,0,none⟩=some (.int .i64 M.n):=by rw[cell_of_row w j 0 _ _ _ q];rfl
 clear q s
 go_enter Tryz.func48,Tryz.ntmps48
 go_wp2
 go_ret
 exact⟨rfl,rfl⟩

theorem dU {F:Nat→Prop}{w:World}{j:Nat}{M:St}(h:ag F w j M)(id:Int)(hid:id≤4294967295) :
  Calls Tryz.prog 78 #[.pointer (some ⟨j,0,none⟩),.int .u32 id] w fun e A=>
   e=.returned (.tuple #[.agg #[.int .u8 (al (look M.cs id)).ad,.int .u8 (al (look M.cs id)).I,.int .u8 (al (look M.cs id)).J,.int .u8 (al (look M.cs id)).lo.tag,.int .u32 (al (look M.cs id)).lo.to,.int .u8 (al (look M.cs id)).hi.tag,.int .u32 (al (look M.cs id)).hi.to],.bool (eT (look M.cs id))])∧aa w A:=by
 obtain⟨⟨A,ib,ts,T,U,q,t,-⟩,-⟩:=h
 have T:w.cell? ⟨j,1,none⟩=some (.pointer (some ⟨A,0,none⟩)):=by rw[cell_of_row w j 1 _ _ _ q];rfl
 have j:=aK q
 have H:=Lib.hid t
 clear q t
 go_enter Tryz.func78,Tryz.ntmps78
 go_wp2_with (go_at_call 133;refine(lA (H.out.U (by(exact kp))) id hid).mono ?_;rintro e w1 ⟨rfl,s⟩;obtain⟨I,J,K,L,N,O,S⟩:=fI (w:=w) (w1:=w1) s;have z:aa w w1:=(by(exact kp));obtain⟨j,q⟩:=s.cells;obtain⟨j,q⟩:=z.cells;have E:=s.size;(try simp only[World.size_alloc,World.cD,World.a3,World.size_setCell]at E);have j:=z.size;have j:w.heap.size<w1.heap.size:=(by omega))
 refine bodyPost_ret (v:=.tuple #[.agg #[.int .u8 (al (look M.cs id)).ad,.int .u8 (al (look M.cs id)).I,.int .u8 (al (look M.cs id)).J,.int .u8 (al (look M.cs id)).lo.tag,.int .u32 (al (look M.cs id)).lo.to,.int .u8 (al (look M.cs id)).hi.tag,.int .u32 (al (look M.cs id)).hi.to],.bool (eT (look M.cs id))]) (by simp[results,Tryz.results78,go_sem,I,J,K,L,N,O,S]) rfl ⟨rfl,by(exact kp)⟩

theorem wS (M:St)(f:Int)(e:Edge)(l:Int)(q:dS f e l M.n=true)(j:¬e.to<2) :
  M.leads f e l=(eT (look M.cs e.to)&&(al (look M.cs e.to)).ad==f&&decide (l≤(al (look M.cs e.to)).I)&&decide (e.tag≤(al (look M.cs e.to)).I)):=by
 unfold St.leads
 rw[q]
 simp only[Bool.true_and,decide_eq_false j,Bool.false_or]
 cases look M.cs e.to with
 |none=>rfl
 |some r=>show _=(true&&_&&_&&_);simp only[Bool.true_and];rfl

theorem wT (t N:Nat)(f q a l n:Int)(x:Rec)(b:Bool)(w:World)(am:0≤q)(av:q≤255)(ad:x.ok)
  (A:w.cell? ⟨t,0,none⟩=some (.int .i64 n)) (J:w.cell? ⟨t,1,none⟩=some (.pointer (some ⟨N,0,none⟩)))
  (Y:∀L,aa w L→Calls Tryz.prog 133 #[.pointer (some ⟨N,0,none⟩),.int .u32 a] L fun e j=>e=.returned (.tuple #[.agg #[.int .u8 x.ad,.int .u8 x.I,.int .u8 x.J,.int .u8 x.lo.tag,.int .u32 x.lo.to,.int .u8 x.hi.tag,.int .u32 x.hi.to],.bool b])∧aa L j) :
  Calls Tryz.prog 134 #[.pointer (some ⟨t,0,none⟩),.int .u8 f,.agg #[.int .u8 q,.int .u32 a],.int .i64 l] w fun e j=>
   e=.returned (.bool (dS f ⟨q,a⟩ l n&&(decide (a<2)||(b&&x.ad==f&&decide (l≤x.I)&&decide (q≤x.I)))))∧aa w j:=by
 have L:t<w.heap.size:=aD A
 obtain⟨L,⟨a1,a2⟩,am,av,aw⟩:=ad
 have H:=Lib.hid Y
 clear Y L am av aw
 have L:w.heap.size+1≠t:=by omega
 cases L:dS f ⟨q,a⟩ l n with
 |false=>
  go_enter Tryz.func134,Tryz.ntmps134
  go_wp2_with fail
  go_region_held3 (fun j=>j.cell? ⟨t,0,none⟩=some (.int .i64 n)∧j.cell? ⟨w.heap.size,0,none⟩=some (.int .u8 q)∧j.cell? ⟨w.heap.size,1,none⟩=some (.int .u32 a)) (go_keep) ((first|(go_at_call 199;refine(kQ _ _ _ _ _ _ (by omega) (by omega)).mono ?_;rintro T w1 ⟨rfl,E⟩;have s:aa (w.alloc (.cells #[.int .u8 q,.int .u32 a] 52)) w1:=(by(exact kp));have U:w1.cell? ⟨w.heap.size,0,none⟩=some (.int .u8 q):=s.cell (by simp);have W:w1.cell? ⟨w.heap.size,1,none⟩=some (.int .u32 a):=s.cell (by simp);have z:aa w w1:=(((aa.refl _).alloc _).trans s);have I:=s.size;simp only[World.size_alloc]at I;have O:=z.cell A;have S:=z.cell J)))
  all_goals(go_wp2;go_ret;exact⟨rfl,by(exact kp)⟩)
 |true=>
  by_cases Z:a<2
  ·go_enter Tryz.func134,Tryz.ntmps134
   go_wp2_with fail
   go_region_held3 (fun j=>j.cell? ⟨t,0,none⟩=some (.int .i64 n)∧j.cell? ⟨w.heap.size,0,none⟩=some (.int .u8 q)∧j.cell? ⟨w.heap.size,1,none⟩=some (.int .u32 a)) (go_keep) ((first|(go_at_call 199;refine(kQ _ _ _ _ _ _ (by omega) (by omega)).mono ?_;rintro T w1 ⟨rfl,E⟩;have s:aa (w.alloc (.cells #[.int .u8 q,.int .u32 a] 52)) w1:=(by(exact kp));have U:w1.cell? ⟨w.heap.size,0,none⟩=some (.int .u8 q):=s.cell (by simp);have W:w1.cell? ⟨w.heap.size,1,none⟩=some (.int .u32 a):=s.cell (by simp);have z:aa w w1:=(((aa.refl _).alloc _).trans s);have I:=s.size;simp only[World.size_alloc]at I;have O:=z.cell A;have S:=z.cell J)))
   all_goals(go_wp2;go_ret;exact⟨by simp[Z],by(exact kp)⟩)
  ·go_enter Tryz.func134,Tryz.ntmps134
   go_wp2_with fail
   go_region_held3 (fun j=>j.cell? ⟨t,0,none⟩=some (.int .i64 n)∧j.cell? ⟨w.heap.size,0,none⟩=some (.int .u8 q)∧j.cell? ⟨w.heap.size,1,none⟩=some (.int .u32 a)) (go_keep) ((first|(go_at_call 199;refine(kQ _ _ _ _ _ _ (by omega) (by omega)).mono ?_;rintro T w1 ⟨rfl,E⟩;have s:aa (w.alloc (.cells #[.int .u8 q,.int .u32 a] 52)) w1:=(by(exact kp));have U:w1.cell? ⟨w.heap.size,0,none⟩=some (.int .u8 q):=s.cell (by simp);have W:w1.cell? ⟨w.heap.size,1,none⟩=some (.int .u32 a):=s.cell (by simp);have z:aa w w1:=(((aa.refl _).alloc _).trans s);have I:=s.size;simp only[World.size_alloc]at I;have O:=z.cell A;have S:=z.cell J)))
   go_wp2
   have I:t<w1.heap.size:=(by omega);have I:w1.heap.size≠t:=(by omega);have I:w1.heap.size≠w.heap.size:=(by omega);have X:=Lib.hid z;clear E z A J s O;go_region_held3 (fun j=>j.cell? ⟨t,1,none⟩=some (.pointer (some ⟨N,0,none⟩))∧j.cell? ⟨w.heap.size,0,none⟩=some (.int .u8 q)∧j.cell? ⟨w.heap.size,1,none⟩=some (.int .u32 a)) (go_keep) ((first|(go_at_call 133;have ab:=X.out;refine(H.out _ (by(exact kp))).mono ?_;rintro T K ⟨rfl,E⟩;obtain⟨j,q⟩:=E.cells;have j:aa w1 K:=(by(exact kp));have q:=j.cell U;have q:=j.cell W;have q:=j.cell S;have q:=j.size;have j:K.heap.size≠t:=(by omega);have j:K.heap.size≠w.heap.size:=(by omega);have j:w.heap.size<K.heap.size:=(by omega))))
   all_goals go_wp2
   all_goals(go_ret;have ab:=X.out;refine⟨?_,by(exact kp)⟩)
   all_goals simp_all
   all_goals(try omega)

theorem cV {F:Nat→Prop}{w:World}{j:Nat}{M:St}(h:ag F w j M)(f:Int)(e:Edge)(l:Int)(s:e.ok) :
  Calls Tryz.prog 134 #[.pointer (some ⟨j,0,none⟩),.int .u8 f,.agg #[.int .u8 e.tag,.int .u32 e.to],.int .i64 l] w fun r E=>r=.returned (.bool (M.leads f e l))∧aa w E:=by
 have K:=h.ee e.to
 obtain⟨⟨z,ib,ts,L,N,A,q,-⟩,-⟩:=h
 have I:w.cell? ⟨j,0,none⟩=some (.int .i64 M.n):=by rw[cell_of_row w j 0 _ _ _ A];rfl
 have J:w.cell? ⟨j,1,none⟩=some (.pointer (some ⟨z,0,none⟩)):=by rw[cell_of_row w j 1 _ _ _ A];rfl
 refine(wT j z f e.tag e.to l M.n (al (look M.cs e.to)) (eT (look M.cs e.to)) w s.1.1 s.1.2 K I J (fun j j=>lA (q.U j) e.to s.2.2)).mono ?_
 rintro r E ⟨rfl,j⟩
 refine⟨?_,j⟩
 congr 2
 cases t:dS f e l M.n with
 |false=>simp[St.leads,t]
 |true=>
  by_cases q:e.to<2;·simp[St.leads,t,q]
  ·rw[wS M f e l t q];simp[q]

theorem ae.cell {F:Nat→Prop}{w q:World}(h:ae F w q){a:Addr}{v:Value}(s:¬F a.block)(j:w.cell? a=some v):q.cell? a=some v:=
 (World.cell?_of_block (h.block a.block (aD j) s)).trans j

theorem ae.frozen {F:Nat→Prop}{w j:World}(h:ae F w j){a:Addr}(t:a.block<w.heap.size)(s:¬F a.block)(q:w.frozen? a=false):j.frozen? a=false:=
 (World.frozen?_of_block (h.block a.block t s)).trans q

theorem ae.eR {F:Nat→Prop}{w w1:World}(h:ae F w w1){k:Nat}(j:¬F k){a b c d e f g:Value}
  (J:w.cell? ⟨k,0,none⟩=some a∧w.cell? ⟨k,1,none⟩=some b∧w.cell? ⟨k,2,none⟩=some c∧w.cell? ⟨k,3,none⟩=some d∧w.cell? ⟨k,4,none⟩=some e∧w.cell? ⟨k,5,none⟩=some f∧w.cell? ⟨k,6,none⟩=some g) :
  w1.cell? ⟨k,0,none⟩=some a∧w1.cell? ⟨k,1,none⟩=some b∧w1.cell? ⟨k,2,none⟩=some c∧w1.cell? ⟨k,3,none⟩=some d∧w1.cell? ⟨k,4,none⟩=some e∧w1.cell? ⟨k,5,none⟩=some f∧w1.cell? ⟨k,6,none⟩=some g:=by
 obtain⟨q,s,t,z,A,E,I⟩:=J
 exact⟨h.cell j q,h.cell j s,h.cell j t,h.cell j z,h.cell j A,h.cell j E,h.cell j I⟩

theorem zN (q ib:Nat)(r:Rec)(id:Int)(n:Int)(J:Value)(w:World)
  (A:w.cell? ⟨q,0,none⟩=some (.int .i64 n)) (K:w.cell? ⟨q,1,none⟩=some J) (L:w.cell? ⟨q,2,none⟩=some (.pointer (some ⟨ib,0,none⟩)))
  (E:∀s,aa w s→Calls Tryz.prog 135 #[.pointer (some ⟨ib,0,none⟩),.agg #[.int .u8 r.ad,.int .u8 r.I,.int .u8 r.J,.int .u8 r.lo.tag,.int .u32 r.lo.to,.int .u8 r.hi.tag,.int .u32 r.hi.to]] s fun e j=>e=.returned (.tuple #[.int .u32 id,.bool true])∧aa s j) :
  Calls Tryz.prog 80 #[.pointer (some ⟨q,0,none⟩),.agg #[.int .u8 r.ad,.int .u8 r.I,.int .u8 r.J,.int .u8 r.lo.tag,.int .u32 r.lo.to,.int .u8 r.hi.tag,.int .u32 r.hi.to]] w fun e j=>e=.returned (.tuple #[.int .u32 id,.int .u8 0])∧aa w j:=by
 have s:q<w.heap.size:=aD A
 have I:=Lib.hid E
 clear E
 go_enter Tryz.func80,Tryz.ntmps80
 go_wp2_with fail
 go_region_held3 (fun j=>j.cell? ⟨q,2,none⟩=some (.pointer (some ⟨ib,0,none⟩))∧(j.cell? ⟨w.heap.size,0,none⟩=some (.int .u8 r.ad)∧j.cell? ⟨w.heap.size,1,none⟩=some (.int .u8 r.I)∧j.cell? ⟨w.heap.size,2,none⟩=some (.int .u8 r.J)∧j.cell? ⟨w.heap.size,3,none⟩=some (.int .u8 r.lo.tag)∧j.cell? ⟨w.heap.size,4,none⟩=some (.int .u32 r.lo.to)∧j.cell? ⟨w.heap.size,5,none⟩=some (.int .u8 r.hi.tag)∧j.cell? ⟨w.heap.size,6,none⟩=some (.int .u32 r.hi.to))) (go_keep) ((first|(go_at_call 135;refine(I.out _ (by(exact kp))).mono ?_;rintro e w1 ⟨rfl,j⟩;have z:aa (w.alloc (.cells #[.int .u8 r.ad,.int .u8 r.I,.int .u8 r.J,.int .u8 r.lo.tag,.int .u32 r.lo.to,.int .u8 r.hi.tag,.int .u32 r.hi.to] 134)) w1:=(by(exact kp));obtain⟨j,q,s,E,I,J,O⟩:=fI z;have t:aa w w1:=(((aa.refl _).alloc _).trans z);have N:=z.size;simp only[World.size_alloc]at N;have j:=t.cell A;have j:=t.cell K;have j:=t.cell L)))
 all_goals(go_wp2;go_ret2;exact⟨rfl,by(exact kp)⟩)

theorem zJ (s ib:Nat)(r:Rec)(am:0≤r.J)(av:r.J≤255)(n:Int)(L:Value)(w:World)
  (A:w.cell? ⟨s,0,none⟩=some (.int .i64 n)) (N:w.cell? ⟨s,1,none⟩=some L) (O:w.cell? ⟨s,2,none⟩=some (.pointer (some ⟨ib,0,none⟩)))
  (E:∀q,aa w q→Calls Tryz.prog 135 #[.pointer (some ⟨ib,0,none⟩),.agg #[.int .u8 r.ad,.int .u8 r.I,.int .u8 r.J,.int .u8 r.lo.tag,.int .u32 r.lo.to,.int .u8 r.hi.tag,.int .u32 r.hi.to]] q fun e j=>e=.returned (.tuple #[.int .u32 0,.bool false])∧aa q j)
  (I:∀q,Calls Tryz.prog 136 #[.agg #[.int .u8 r.ad,.int .u8 r.I,.int .u8 r.J,.int .u8 r.lo.tag,.int .u32 r.lo.to,.int .u8 r.hi.tag,.int .u32 r.hi.to],.int .i64 n] q fun e j=>e=.returned (.bool false)∧aa q j)
  : Calls Tryz.prog 80 #[.pointer (some ⟨s,0,none⟩),.agg #[.int .u8 r.ad,.int .u8 r.I,.int .u8 r.J,.int .u8 r.lo.tag,.int .u32 r.lo.to,.int .u8 r.hi.tag,.int .u32 r.hi.to]] w fun e j=>e=.returned (.tuple #[.int .u32 0,.int .u8 1])∧aa w j:=by
 have q:s<w.heap.size:=aD A
 have J:=Lib.hid E
 have K:=Lib.hid I
 clear E I
 go_enter Tryz.func80,Tryz.ntmps80
 go_wp2_with fail
 go_region_held3 (fun j=>j.cell? ⟨s,2,none⟩=some (.pointer (some ⟨ib,0,none⟩))∧(j.cell? ⟨w.heap.size,0,none⟩=some (.int .u8 r.ad)∧j.cell? ⟨w.heap.size,1,none⟩=some (.int .u8 r.I)∧j.cell? ⟨w.heap.size,2,none⟩=some (.int .u8 r.J)∧j.cell? ⟨w.heap.size,3,none⟩=some (.int .u8 r.lo.tag)∧j.cell? ⟨w.heap.size,4,none⟩=some (.int .u32 r.lo.to)∧j.cell? ⟨w.heap.size,5,none⟩=some (.int .u8 r.hi.tag)∧j.cell? ⟨w.heap.size,6,none⟩=some (.int .u32 r.hi.to))) (go_keep) ((first|(go_at_call 135;refine(J.out _ (by(exact kp))).mono ?_;rintro e w1 ⟨rfl,j⟩;have z:aa (w.alloc (.cells #[.int .u8 r.ad,.int .u8 r.I,.int .u8 r.J,.int .u8 r.lo.tag,.int .u32 r.lo.to,.int .u8 r.hi.tag,.int .u32 r.hi.to] 134)) w1:=(by(exact kp));obtain⟨U,W,X,Y,Z,ab,ad⟩:=fI z;have t:aa w w1:=(((aa.refl _).alloc _).trans z);have T:=z.size;simp only[World.size_alloc]at T;have S:=t.cell A;have j:=t.cell N;have j:=t.cell O)))
 go_wp2_with fail
 have j:=ai.cell S
 have j:=ai.cell U
 have j:=ai.cell W
 have j:=ai.cell X
 have j:=ai.cell Y
 have j:=ai.cell Z
 have j:=ai.cell ab
 have j:=ai.cell ad
 refine dO (w1) (by kernel_rfl) (by kernel_rfl) (by(exact kp)) ?_;(repeat (go_big_quiet_step ((first|(go_at_call 136;refine Calls.b4 (K.out _))))));refine wpQuiet_nil ?_;rintro j ⟨⟨_,aw⟩,rfl⟩;try dsimp only
 go_wp2
 go_ret2
 exact⟨rfl,by(exact kp)⟩

theorem zK (s ib:Nat)(r:Rec)(aw:0≤r.J)(a1:r.J≤255)(n:Int)(O:Value)(w:World)
  (A:w.cell? ⟨s,0,none⟩=some (.int .i64 n)) (S:w.cell? ⟨s,1,none⟩=some O) (T:w.cell? ⟨s,2,none⟩=some (.pointer (some ⟨ib,0,none⟩)))
  (E:∀q,aa w q→Calls Tryz.prog 135 #[.pointer (some ⟨ib,0,none⟩),.agg #[.int .u8 r.ad,.int .u8 r.I,.int .u8 r.J,.int .u8 r.lo.tag,.int .u32 r.lo.to,.int .u8 r.hi.tag,.int .u32 r.hi.to]] q fun e j=>e=.returned (.tuple #[.int .u32 0,.bool false])∧aa q j)
  (J:∀q,Calls Tryz.prog 136 #[.agg #[.int .u8 r.ad,.int .u8 r.I,.int .u8 r.J,.int .u8 r.lo.tag,.int .u32 r.lo.to,.int .u8 r.hi.tag,.int .u32 r.hi.to],.int .i64 n] q fun e j=>e=.returned (.bool true)∧aa q j)
  (I:∀q,aa w q→Calls Tryz.prog 134 #[.pointer (some ⟨s,0,none⟩),.int .u8 r.ad,.agg #[.int .u8 r.lo.tag,.int .u32 r.lo.to],.int .i64 (r.J+1)] q fun e j=>e=.returned (.bool false)∧aa q j)
  : Calls Tryz.prog 80 #[.pointer (some ⟨s,0,none⟩),.agg #[.int .u8 r.ad,.int .u8 r.I,.int .u8 r.J,.int .u8 r.lo.tag,.int .u32 r.lo.to,.int .u8 r.hi.tag,.int .u32 r.hi.to]] w fun e j=>e=.returned (.tuple #[.int .u32 0,.int .u8 1])∧aa w j:=by
 have q:s<w.heap.size:=aD A
 have K:=Lib.hid E
 have N:=Lib.hid J
 have L:=Lib.hid I
 clear E J I
 go_enter Tryz.func80,Tryz.ntmps80
 go_wp2_with fail
 go_region_held3 (fun j=>j.cell? ⟨s,2,none⟩=some (.pointer (some ⟨ib,0,none⟩))∧(j.cell? ⟨w.heap.size,0,none⟩=some (.int .u8 r.ad)∧j.cell? ⟨w.heap.size,1,none⟩=some (.int .u8 r.I)∧j.cell? ⟨w.heap.size,2,none⟩=some (.int .u8 r.J)∧j.cell? ⟨w.heap.size,3,none⟩=some (.int .u8 r.lo.tag)∧j.cell? ⟨w.heap.size,4,none⟩=some (.int .u32 r.lo.to)∧j.cell? ⟨w.heap.size,5,none⟩=some (.int .u8 r.hi.tag)∧j.cell? ⟨w.heap.size,6,none⟩=some (.int .u32 r.hi.to))) (go_keep) ((first|(go_at_call 135;refine(K.out _ (by(exact kp))).mono ?_;rintro e w1 ⟨rfl,j⟩;have z:aa (w.alloc (.cells #[.int .u8 r.ad,.int .u8 r.I,.int .u8 r.J,.int .u8 r.lo.tag,.int .u32 r.lo.to,.int .u8 r.hi.tag,.int .u32 r.hi.to] 134)) w1:=(by(exact kp));obtain⟨X,Y,Z,ab,ad,am,av⟩:=fI z;have t:aa w w1:=(((aa.refl _).alloc _).trans z);have W:=z.size;simp only[World.size_alloc]at W;have U:=t.cell A;have j:=t.cell S;have j:=t.cell T)))
 go_wp2_with fail
 have j:=ai.cell U
 have j:=ai.cell X
 have j:=ai.cell Y
 have j:=ai.cell Z
 have j:=ai.cell ab
 have j:=ai.cell ad
 have j:=ai.cell am
 have j:=ai.cell av
 refine dO (w1) (by kernel_rfl) (by kernel_rfl) (by(exact kp)) ?_;(repeat (go_big_quiet_step ((first|(go_at_call 136;refine Calls.b4 (N.out _))|(go_at_call 134;with_reducible refine Calls.b4 (L.out _ (t.trans (ai.a4 _))))))));refine wpQuiet_nil ?_;rintro j ⟨⟨_,a2⟩,rfl⟩;try dsimp only
 go_wp2
 go_ret2
 exact⟨rfl,by(exact kp)⟩

theorem zL (s ib:Nat)(r:Rec)(a2:0≤r.J)(a3:r.J≤255)(n:Int)(T:Value)(w:World)
  (A:w.cell? ⟨s,0,none⟩=some (.int .i64 n)) (U:w.cell? ⟨s,1,none⟩=some T) (W:w.cell? ⟨s,2,none⟩=some (.pointer (some ⟨ib,0,none⟩)))
  (E:∀q,aa w q→Calls Tryz.prog 135 #[.pointer (some ⟨ib,0,none⟩),.agg #[.int .u8 r.ad,.int .u8 r.I,.int .u8 r.J,.int .u8 r.lo.tag,.int .u32 r.lo.to,.int .u8 r.hi.tag,.int .u32 r.hi.to]] q fun e j=>e=.returned (.tuple #[.int .u32 0,.bool false])∧aa q j)
  (K:∀q,Calls Tryz.prog 136 #[.agg #[.int .u8 r.ad,.int .u8 r.I,.int .u8 r.J,.int .u8 r.lo.tag,.int .u32 r.lo.to,.int .u8 r.hi.tag,.int .u32 r.hi.to],.int .i64 n] q fun e j=>e=.returned (.bool true)∧aa q j)
  (J:∀q,aa w q→Calls Tryz.prog 134 #[.pointer (some ⟨s,0,none⟩),.int .u8 r.ad,.agg #[.int .u8 r.lo.tag,.int .u32 r.lo.to],.int .i64 (r.J+1)] q fun e j=>e=.returned (.bool true)∧aa q j)
  (I:∀q,aa w q→Calls Tryz.prog 134 #[.pointer (some ⟨s,0,none⟩),.int .u8 r.ad,.agg #[.int .u8 r.hi.tag,.int .u32 r.hi.to],.int .i64 (r.J+1)] q fun e j=>e=.returned (.bool false)∧aa q j)
  : Calls Tryz.prog 80 #[.pointer (some ⟨s,0,none⟩),.agg #[.int .u8 r.ad,.int .u8 r.I,.int .u8 r.J,.int .u8 r.lo.tag,.int .u32 r.lo.to,.int .u8 r.hi.tag,.int .u32 r.hi.to]] w fun e j=>e=.returned (.tuple #[.int .u32 0,.int .u8 1])∧aa w j:=by
 have q:s<w.heap.size:=aD A
 have L:=Lib.hid E
 have S:=Lib.hid K
 have O:=Lib.hid J
 have N:=Lib.hid I
 clear E K J I
 go_enter Tryz.func80,Tryz.ntmps80
 go_wp2_with fail
 go_region_held3 (fun j=>j.cell? ⟨s,2,none⟩=some (.pointer (some ⟨ib,0,none⟩))∧(j.cell? ⟨w.heap.size,0,none⟩=some (.int .u8 r.ad)∧j.cell? ⟨w.heap.size,1,none⟩=some (.int .u8 r.I)∧j.cell? ⟨w.heap.size,2,none⟩=some (.int .u8 r.J)∧j.cell? ⟨w.heap.size,3,none⟩=some (.int .u8 r.lo.tag)∧j.cell? ⟨w.heap.size,4,none⟩=some (.int .u32 r.lo.to)∧j.cell? ⟨w.heap.size,5,none⟩=some (.int .u8 r.hi.tag)∧j.cell? ⟨w.heap.size,6,none⟩=some (.int .u32 r.hi.to))) (go_keep) ((first|(go_at_call 135;refine(L.out _ (by(exact kp))).mono ?_;rintro e w1 ⟨rfl,j⟩;have z:aa (w.alloc (.cells #[.int .u8 r.ad,.int .u8 r.I,.int .u8 r.J,.int .u8 r.lo.tag,.int .u32 r.lo.to,.int .u8 r.hi.tag,.int .u32 r.hi.to] 134)) w1:=(by(exact kp));obtain⟨Z,ab,ad,am,av,aw,a1⟩:=fI z;have t:aa w w1:=(((aa.refl _).alloc _).trans z);have Y:=z.size;simp only[World.size_alloc]at Y;have X:=t.cell A;have j:=t.cell U;have j:=t.cell W)))
 go_wp2_with fail
 have j:=ai.cell X
 have j:=ai.cell Z
 have j:=ai.cell ab
 have j:=ai.cell ad
 have j:=ai.cell am
 have j:=ai.cell av
 have j:=ai.cell aw
 have j:=ai.cell a1
 refine dO (w1) (by kernel_rfl) (by kernel_rfl) (by(exact kp)) ?_;(repeat (go_big_quiet_step ((first|(go_at_call 136;refine Calls.b4 (S.out _))|(go_at_call 134;with_reducible refine Calls.b4 (O.out _ (t.trans (ai.a4 _))))|(go_at_call 134;with_reducible refine Calls.b4 (N.out _ (t.trans (ai.a4 _))))))));refine wpQuiet_nil ?_;rintro j ⟨⟨_,a4⟩,rfl⟩;try dsimp only
 go_wp2
 go_ret2
 exact⟨rfl,by(exact kp)⟩

theorem zM (z ib:Nat)(r:Rec)(a8:0≤r.J)(a':r.J≤255)(n:Int)(E:Nat)(w:World)
  (J:w.cell? ⟨z,0,none⟩=some (.int .i64 n)) (a3:w.cell? ⟨z,1,none⟩=some (.pointer (some ⟨E,0,none⟩))) (a4:w.cell? ⟨z,2,none⟩=some (.pointer (some ⟨ib,0,none⟩)))
  (K:∀q,aa w q→Calls Tryz.prog 135 #[.pointer (some ⟨ib,0,none⟩),.agg #[.int .u8 r.ad,.int .u8 r.I,.int .u8 r.J,.int .u8 r.lo.tag,.int .u32 r.lo.to,.int .u8 r.hi.tag,.int .u32 r.hi.to]] q fun e j=>e=.returned (.tuple #[.int .u32 0,.bool false])∧aa q j)
  (T:∀q,Calls Tryz.prog 136 #[.agg #[.int .u8 r.ad,.int .u8 r.I,.int .u8 r.J,.int .u8 r.lo.tag,.int .u32 r.lo.to,.int .u8 r.hi.tag,.int .u32 r.hi.to],.int .i64 n] q fun e j=>e=.returned (.bool true)∧aa q j)
  (O:∀q,aa w q→Calls Tryz.prog 134 #[.pointer (some ⟨z,0,none⟩),.int .u8 r.ad,.agg #[.int .u8 r.lo.tag,.int .u32 r.lo.to],.int .i64 (r.J+1)] q fun e j=>e=.returned (.bool true)∧aa q j)
  (L:∀q,aa w q→Calls Tryz.prog 134 #[.pointer (some ⟨z,0,none⟩),.int .u8 r.ad,.agg #[.int .u8 r.hi.tag,.int .u32 r.hi.to],.int .i64 (r.J+1)] q fun e j=>e=.returned (.bool true)∧aa q j)
  (S:∀q,aa w q→Calls Tryz.prog 137 #[.pointer (some ⟨E,0,none⟩),.agg #[.int .u8 r.ad,.int .u8 r.I,.int .u8 r.J,.int .u8 r.lo.tag,.int .u32 r.lo.to,.int .u8 r.hi.tag,.int .u32 r.hi.to]] q fun e j=>e=.returned (.tuple #[.int .u32 0,.bool false])∧aa q j) :
  Calls Tryz.prog 80 #[.pointer (some ⟨z,0,none⟩),.agg #[.int .u8 r.ad,.int .u8 r.I,.int .u8 r.J,.int .u8 r.lo.tag,.int .u32 r.lo.to,.int .u8 r.hi.tag,.int .u32 r.hi.to]] w fun e j=>e=.returned (.tuple #[.int .u32 0,.int .u8 6])∧aa w j:=by
 have a1:=Lib.hid S
 clear S
 have q:z<w.heap.size:=aD J
 have am:=Lib.hid K
 have a2:=Lib.hid T
 have aw:=Lib.hid O
 have av:=Lib.hid L
 clear K T O L
 go_enter Tryz.func80,Tryz.ntmps80
 go_wp2_with fail
 go_region_held3 (fun j=>j.cell? ⟨z,2,none⟩=some (.pointer (some ⟨ib,0,none⟩))∧(j.cell? ⟨w.heap.size,0,none⟩=some (.int .u8 r.ad)∧j.cell? ⟨w.heap.size,1,none⟩=some (.int .u8 r.I)∧j.cell? ⟨w.heap.size,2,none⟩=some (.int .u8 r.J)∧j.cell? ⟨w.heap.size,3,none⟩=some (.int .u8 r.lo.tag)∧j.cell? ⟨w.heap.size,4,none⟩=some (.int .u32 r.lo.to)∧j.cell? ⟨w.heap.size,5,none⟩=some (.int .u8 r.hi.tag)∧j.cell? ⟨w.heap.size,6,none⟩=some (.int .u32 r.hi.to))) (go_keep) ((first|(go_at_call 135;refine(am.out _ (by(exact kp))).mono ?_;rintro e w1 ⟨rfl,j⟩;have I:aa (w.alloc (.cells #[.int .u8 r.ad,.int .u8 r.I,.int .u8 r.J,.int .u8 r.lo.tag,.int .u32 r.lo.to,.int .u8 r.hi.tag,.int .u32 r.hi.to] 134)) w1:=(by(exact kp));obtain⟨U,W,X,Y,Z,ab,ad⟩:=fI I;have A:aa w w1:=(((aa.refl _).alloc _).trans I);have a7:=I.size;simp only[World.size_alloc]at a7;have a5:=A.cell J;have a6:=A.cell a3;have j:=A.cell a4)))
 go_wp2_with fail
 have j:=ai.cell a5
 have j:=ai.cell U
 have j:=ai.cell W
 have j:=ai.cell X
 have j:=ai.cell Y
 have j:=ai.cell Z
 have j:=ai.cell ab
 have j:=ai.cell ad
 refine dO (w1) (by kernel_rfl) (by kernel_rfl) (by(exact kp)) ?_;(repeat (go_big_quiet_step ((first|(go_at_call 136;refine Calls.b4 (a2.out _))|(go_at_call 134;with_reducible refine Calls.b4 (aw.out _ (A.trans (ai.a4 _))))|(go_at_call 134;with_reducible refine Calls.b4 (av.out _ (A.trans (ai.a4 _))))))));refine wpQuiet_nil ?_;rintro s ⟨⟨_,t⟩,rfl⟩;try dsimp only
 go_wp2_with fail
 have N:aa w s:=A.trans t
 have j:∀x:ai s,x.w.cell? ⟨z,1,none⟩=some (.pointer (some ⟨E,0,none⟩)):=ai.cell (t.cell a6)
 have j:∀x:ai s,x.w.cell? _=_:=ai.cell (t.cell U)
 have j:∀x:ai s,x.w.cell? _=_:=ai.cell (t.cell W)
 have j:∀x:ai s,x.w.cell? _=_:=ai.cell (t.cell X)
 have j:∀x:ai s,x.w.cell? _=_:=ai.cell (t.cell Y)
 have j:∀x:ai s,x.w.cell? _=_:=ai.cell (t.cell Z)
 have j:∀x:ai s,x.w.cell? _=_:=ai.cell (t.cell ab)
 have j:∀x:ai s,x.w.cell? _=_:=ai.cell (t.cell ad)
 refine dO (s) (by kernel_rfl) (by kernel_rfl) (by(exact kp)) ?_;(repeat (go_big_quiet_step ((first|(go_at_call 137;refine Calls.b4 (a1.out _ (N.trans (ai.a4 _))))))));refine wpQuiet_nil ?_;rintro s ⟨⟨_,t⟩,rfl⟩;try dsimp only
 go_wp2
 go_ret2
 exact⟨rfl,N.trans (by assumption)⟩

theorem zO (s ib:Nat)(r:Rec)(c3:0≤r.J)(c4:r.J≤255)(n:Int)(N:Nat)(w:World)
  (X:w.cell? ⟨s,0,none⟩=some (.int .i64 n)) (bw:w.cell? ⟨s,1,none⟩=some (.pointer (some ⟨N,0,none⟩))) (bx:w.cell? ⟨s,2,none⟩=some (.pointer (some ⟨ib,0,none⟩)))
  (ab:∀q,aa w q→Calls Tryz.prog 135 #[.pointer (some ⟨ib,0,none⟩),.agg #[.int .u8 r.ad,.int .u8 r.I,.int .u8 r.J,.int .u8 r.lo.tag,.int .u32 r.lo.to,.int .u8 r.hi.tag,.int .u32 r.hi.to]] q fun e j=>e=.returned (.tuple #[.int .u32 0,.bool false])∧aa q j)
  (a3:∀q,Calls Tryz.prog 136 #[.agg #[.int .u8 r.ad,.int .u8 r.I,.int .u8 r.J,.int .u8 r.lo.tag,.int .u32 r.lo.to,.int .u8 r.hi.tag,.int .u32 r.hi.to],.int .i64 n] q fun e j=>e=.returned (.bool true)∧aa q j)
  (aw:∀q,aa w q→Calls Tryz.prog 134 #[.pointer (some ⟨s,0,none⟩),.int .u8 r.ad,.agg #[.int .u8 r.lo.tag,.int .u32 r.lo.to],.int .i64 (r.J+1)] q fun e j=>e=.returned (.bool true)∧aa q j)
  (ad:∀q,aa w q→Calls Tryz.prog 134 #[.pointer (some ⟨s,0,none⟩),.int .u8 r.ad,.agg #[.int .u8 r.hi.tag,.int .u32 r.hi.to],.int .i64 (r.J+1)] q fun e j=>e=.returned (.bool true)∧aa q j)
  (id:Int) (A J:Nat→Prop) (Z:∀k,A k→k<w.heap.size) (hi:∀k,J k→k<w.heap.size) (has:¬A s) (am:¬J s) (L W:World→World→Prop)
  (a1:∀q,aa w q→Calls Tryz.prog 137 #[.pointer (some ⟨N,0,none⟩),.agg #[.int .u8 r.ad,.int .u8 r.I,.int .u8 r.J,.int .u8 r.lo.tag,.int .u32 r.lo.to,.int .u8 r.hi.tag,.int .u32 r.hi.to]] q fun e j=>e=.returned (.tuple #[.int .u32 id,.bool true])∧ae A q j∧L q j)
  (a2:∀q z t,aa w q→ae A q z→L q z→aa z t→Calls Tryz.prog 138 #[.pointer (some ⟨ib,0,none⟩),.agg #[.int .u8 r.ad,.int .u8 r.I,.int .u8 r.J,.int .u8 r.lo.tag,.int .u32 r.lo.to,.int .u8 r.hi.tag,.int .u32 r.hi.to],.int .u32 id] t fun e j=>e=.returned (.tuple #[.int .u32 0,.bool false])∧ae J t j∧W t j) :
  Calls Tryz.prog 80 #[.pointer (some ⟨s,0,none⟩),.agg #[.int .u8 r.ad,.int .u8 r.I,.int .u8 r.J,.int .u8 r.lo.tag,.int .u32 r.lo.to,.int .u8 r.hi.tag,.int .u32 r.hi.to]] w fun e j=>e=.returned (.tuple #[.int .u32 id,.int .u8 0]) ∧
   ∃q z t,aa w q∧ae A q z∧L q z∧aa z t∧ae J t j∧W t j:=by
 have bs:=Lib.hid a1
 have bt:=Lib.hid a2
 have bg:=Lib.hid Z
 have U:=Lib.hid has
 have bi:=Lib.hid hi
 have bn:=Lib.hid am
 clear a1 a2 Z hi has am
 have q:s<w.heap.size:=aD X
 have bp:=Lib.hid ab
 have bv:=Lib.hid a3
 have br:=Lib.hid aw
 have bq:=Lib.hid ad
 clear ab a3 aw ad
 go_enter Tryz.func80,Tryz.ntmps80
 go_wp2_with fail
 go_region_held3 (fun j=>j.cell? ⟨s,2,none⟩=some (.pointer (some ⟨ib,0,none⟩))∧(j.cell? ⟨w.heap.size,0,none⟩=some (.int .u8 r.ad)∧j.cell? ⟨w.heap.size,1,none⟩=some (.int .u8 r.I)∧j.cell? ⟨w.heap.size,2,none⟩=some (.int .u8 r.J)∧j.cell? ⟨w.heap.size,3,none⟩=some (.int .u8 r.lo.tag)∧j.cell? ⟨w.heap.size,4,none⟩=some (.int .u32 r.lo.to)∧j.cell? ⟨w.heap.size,5,none⟩=some (.int .u8 r.hi.tag)∧j.cell? ⟨w.heap.size,6,none⟩=some (.int .u32 r.hi.to))) (go_keep) ((first|(go_at_call 135;refine(bp.out _ (by(exact kp))).mono ?_;rintro e w1 ⟨rfl,b8⟩;have S:aa (w.alloc (.cells #[.int .u8 r.ad,.int .u8 r.I,.int .u8 r.J,.int .u8 r.lo.tag,.int .u32 r.lo.to,.int .u8 r.hi.tag,.int .u32 r.hi.to] 134)) w1:=(by(exact kp));obtain⟨a5,a6,a7,a8,a',bb,be⟩:=fI S;have E:aa w w1:=(((aa.refl _).alloc _).trans S);have a4:=S.size;simp only[World.size_alloc]at a4;have b0:=E.cell X;have b2:=E.cell bw;have b4:=E.cell bx)))
 go_wp2_with fail
 have b1:=ai.cell b0
 have cj:=ai.cell a5
 have cl:=ai.cell a6
 have cn:=ai.cell a7
 have co:=ai.cell a8
 have cp:=ai.cell a'
 have cq:=ai.cell bb
 have cv:=ai.cell be
 refine dO (w1) (by kernel_rfl) (by kernel_rfl) (by(exact kp)) ?_;(repeat (go_big_quiet_step ((first|(go_at_call 136;refine Calls.b4 (bv.out _))|(go_at_call 134;with_reducible refine Calls.b4 (br.out _ (E.trans (ai.a4 _))))|(go_at_call 134;with_reducible refine Calls.b4 (bq.out _ (E.trans (ai.a4 _))))))));refine wpQuiet_nil ?_;rintro T ⟨⟨_,I⟩,rfl⟩;try dsimp only
 go_wp2_with fail
 have av:aa w T:=E.trans I
 have b3:=I.cell b2
 have b5:=I.cell b4
 obtain⟨cx,cy,cD,cS,c0,c1,c2⟩:=I.eR ⟨a5,a6,a7,a8,a',bb,be⟩
 clear b1 cj cl cn co cp cq cv b8
 have q:w.heap.size<T.heap.size:=by have:=I.size;omega
 have q:s<T.heap.size:=by have:=I.size;omega
 have b9:¬A w.heap.size:=fun h=>by have:=bg.out _ h;omega
 have ca:¬J w.heap.size:=fun h=>by have:=bi.out _ h;omega
 clear a4
 go_region_held3 (fun j=>j.cell? ⟨s,1,none⟩=some (.pointer (some ⟨N,0,none⟩))∧(j.cell? ⟨w.heap.size,0,none⟩=some (.int .u8 r.ad)∧j.cell? ⟨w.heap.size,1,none⟩=some (.int .u8 r.I)∧j.cell? ⟨w.heap.size,2,none⟩=some (.int .u8 r.J)∧j.cell? ⟨w.heap.size,3,none⟩=some (.int .u8 r.lo.tag)∧j.cell? ⟨w.heap.size,4,none⟩=some (.int .u32 r.lo.to)∧j.cell? ⟨w.heap.size,5,none⟩=some (.int .u8 r.hi.tag)∧j.cell? ⟨w.heap.size,6,none⟩=some (.int .u32 r.hi.to))) (go_keep) ((first|(go_at_call 137;refine(bs.out _ (by(exact kp))).mono ?_;rintro e q ⟨rfl,K,Y⟩;have q:=K.cell (a:=⟨s,1,none⟩) U.out b3;have b6:=K.cell (a:=⟨s,2,none⟩) U.out b5;obtain⟨cb,cd,ce,cf,cg,ch,ci⟩:=K.eR b9 ⟨cx,cy,cD,cS,c0,c1,c2⟩)))
 go_wp2_with fail
 go_region_held3 (fun j=>j.cell? ⟨s,2,none⟩=some (.pointer (some ⟨ib,0,none⟩))∧(j.cell? ⟨w.heap.size,0,none⟩=some (.int .u8 r.ad)∧j.cell? ⟨w.heap.size,1,none⟩=some (.int .u8 r.I)∧j.cell? ⟨w.heap.size,2,none⟩=some (.int .u8 r.J)∧j.cell? ⟨w.heap.size,3,none⟩=some (.int .u8 r.lo.tag)∧j.cell? ⟨w.heap.size,4,none⟩=some (.int .u32 r.lo.to)∧j.cell? ⟨w.heap.size,5,none⟩=some (.int .u8 r.hi.tag)∧j.cell? ⟨w.heap.size,6,none⟩=some (.int .u32 r.hi.to))) (go_keep) ((first|(go_at_call 138;refine(bt.out _ _ _ av.drew K Y (by(exact kp))).mono ?_;rintro e j ⟨rfl,O,b7⟩;have j:=O.cell (a:=⟨s,2,none⟩) bn.out b6;obtain⟨j,q,t,z,A,E,I⟩:=O.eR ca ⟨cb,cd,ce,cf,cg,ch,ci⟩)))
 go_wp2
 go_ret2
 exact⟨rfl,_,_,_,av.drew,K,Y,(aa.refl _).drew,O,b7⟩

theorem jK {F:Nat→Prop}{w:World}{z:Nat}{M:St}(h:ag F w z M)(r:Rec)(S:r.ok) :
  Calls Tryz.prog 80 #[.pointer (some ⟨z,0,none⟩),.agg #[.int .u8 r.ad,.int .u8 r.I,.int .u8 r.J,.int .u8 r.lo.tag,.int .u32 r.lo.to,.int .u8 r.hi.tag,.int .u32 r.hi.to]] w fun e s=>
   e=.returned (.tuple #[.int .u32 (M.bg r),.int .u8 (M.a7 r)])∧ae F w s∧ag (ao F w s) s z (M.a6 r):=by
 have b3:=fun(t:World) (E:aa w t) (e:Edge) (I:e.ok)=>cV (h.U E) r.ad e (r.J+1) I
 have bx:∀{e:Ending} {s:World} {i bs:Int},M.a6 r=M→M.bg r=i→M.a7 r=bs→e=.returned (.tuple #[.int .u32 i,.int .u8 bs])∧aa w s →
   e=.returned (.tuple #[.int .u32 (M.bg r),.int .u8 (M.a7 r)])∧ae F w s∧ag (ao F w s) s z (M.a6 r):=by
  intro e s i bs L a2 bn ⟨bv,av⟩
  rw[L,a2,bn]
  have j:=h.U av
  obtain⟨⟨U,ib,ts,Y,Z,a',bb,bs,cj,cl,cn,co,cp⟩,b6,b7,b8⟩:=j
  refine⟨bv,av.av F,⟨⟨U,ib,ts,Y,Z,a',bb,bs,cj,cl,fun k j=>.inl (cn k j),fun k j=>.inl (co k j),cp⟩,.inl b6,fun k j=>?_,b8⟩⟩
  rcases j with j|j
  ·exact b7 k j
  ·exact j.2
 have a7:=h.wf
 have b4:∀id,look M.cs id=some r↔M.b3 r=some id:=fun id=>jx h.b2 r id
 obtain⟨⟨U,ib,ts,Y,Z,L,a2,bn,bv,av,bp,bq,b1,bw,bt⟩,ca,a1,bs⟩:=h
 have ab:w.cell? ⟨z,0,none⟩=some (.int .i64 M.n):=by rw[cell_of_row w z 0 _ _ _ L];rfl
 have ad:w.cell? ⟨z,1,none⟩=some (.pointer (some ⟨U,0,none⟩)):=by rw[cell_of_row w z 1 _ _ _ L];rfl
 have am:w.cell? ⟨z,2,none⟩=some (.pointer (some ⟨ib,0,none⟩)):=by rw[cell_of_row w z 2 _ _ _ L];rfl
 have O:∀t,aa w t→Calls Tryz.prog 135 #[.pointer (some ⟨ib,0,none⟩),.agg #[.int .u8 r.ad,.int .u8 r.I,.int .u8 r.J,.int .u8 r.lo.tag,.int .u32 r.lo.to,.int .u8 r.hi.tag,.int .u32 r.hi.to]] t fun e s=>e=.returned (.tuple #[.int .u32 ((M.b3 r).getD 0),.bool (M.b3 r).isSome])∧aa t s:=
  fun t E=>vJ (bn.U E) r S (M.b3 r) (fun id=>(av r id).trans (b4 id))
 have a4:=S.J.1
 have a5:=S.J.2
 have T:=fun t=>zd r S M.n t
 cases hi:M.b3 r with
 |some id=>
  rw[hi]at O;refine(zN z ib r id M.n _ w ab ad am O).mono fun e s I=>?_;exact bx (by unfold St.a6;rw[hi]) (by unfold St.bg;rw[hi]) (by unfold St.a7;rw[hi]) I
 |none=>
  rw[hi]at O;have X:=fun t E=>b3 t E r.lo S.lo;have a6:=fun t E=>b3 t E r.hi S.hi;cases A:M.bp r with
  |true=>
   have fin:∀{e:Ending} {s:World},e=.returned (.tuple #[.int .u32 0,.int .u8 1])∧aa w s→e=.returned (.tuple #[.int .u32 (M.bg r),.int .u8 (M.a7 r)])∧ae F w s∧ag (ao F w s) s z (M.a6 r):=
    bx (by unfold St.a6;rw[hi,A];rfl) (by unfold St.bg;rw[hi,A];rfl) (by unfold St.a7;rw[hi,A];rfl)
   unfold St.bp at A;cases bs:gU r M.n with
   |false=>
    rw[bs]at T;exact(zJ z ib r a4 a5 M.n _ w ab ad am O T).mono fun e s I=>fin I
   |true=>
    rw[bs]at T A;cases bs:M.leads r.ad r.lo (r.J+1)with
    |false=>
     rw[bs]at X;exact(zK z ib r a4 a5 M.n _ w ab ad am O T X).mono fun e s I=>fin I
    |true=>
     rw[bs]at X A;have bs:M.leads r.ad r.hi (r.J+1)=false:=(by simpa using A);rw[bs]at a6;exact(zL z ib r a4 a5 M.n _ w ab ad am O T X a6).mono fun e s I=>fin I
  |false=>
   have a3:=A;unfold St.bp at a3;simp only[Bool.or_eq_false_iff,Bool.not_eq_false']at a3;rw[a3.1.1]at T;rw[a3.1.2]at X;rw[a3.2]at a6;by_cases W:M.room≤M.len
   ·refine(zM z ib r a4 a5 M.n U w ab ad am O T X a6 (fun t E=>sj (a2.U E) r W)).mono fun e s I=>?_;exact bx (by unfold St.a6;rw[hi,A];simp[W]) (by unfold St.bg;rw[hi,A];simp[W]) (by unfold St.a7;rw[hi,A];simp[W]) I
   ·have b5:M.len<M.room:=(by omega);have cb:M.a6 r=M.add r:=(by unfold St.a6;rw[hi,A];simp[W,St.add]);have cd:M.bg r=dH M.gone M.cs.length:=(by unfold St.bg;rw[hi,A];simp[W]);have ce:M.a7 r=0:=(by unfold St.a7;rw[hi,A];simp[W]);obtain⟨b6,b7,b8⟩:=mL a7.gone;have I:=a2.b0;have I:=a7.gb;have I:=a7.g2
    have cf:∀J,¬ah.has ts r J:=fun J I=>by
     have:=(b4 J).1 ((av r J).1 I);rw[hi]at this;cases this
    refine(zO z ib r a4 a5 M.n U w ab ad am O T X a6 (dH M.gone M.cs.length) Y Z (fun k j=>a1 k (bp k j)) (fun k j=>a1 k (bq k j)) bw bt
     (fun t K=>cM (ao Y t K) K U (cT M.cs M.gone r) M.gone.dropLast (M.len+1) M.room)
     (fun t K=>∃bg,cO (ao Z t K) K ib bg (M.len+1)∧M.len+1=(occ bg:Int)∧∀be J,ah.has bg be J↔(be=r∧J=dH M.gone M.cs.length)∨ah.has ts be J)
     (fun t E=>si (a2.U E) r S b5) (fun t K b0 a8 bi b9 aw=>?_)).mono ?_
    ·have E:=((bn.U a8).a4 bi (fun k j N=>b1 k N j)).U aw;exact vL E bv (by omega) r S _ (by omega) (by omega) cf
    ·rintro e s ⟨rfl,t,K,b0,a8,bi,b9,aw,br,bg,cg,ch,ci⟩;rw[cb,cd,ce];have E:=a8.size;have E:=bi.size;have E:=aw.size;have E:=br.size;have cq:ae F w s:=((((a8.av F).a' (bi.mono (fun k _ j=>bp k j))).a' (aw.av F)).a' (br.mono (fun k _ j=>bq k j)))
     have b2:∀k,ao Y t K k→¬Z k:=fun k j N=>by
      rcases j with j|j;·exact b1 k j N
      ·have:=a1 k (bq k N);omega
     refine⟨rfl,cq,⟨⟨U,ib,bg,ao Y t K,ao Z b0 s,?_,?_,?_,?_,?_,?_,?_,?_,?_,?_⟩,.inl ca,?_,?_⟩⟩
     ·have t:=aK L;show s.heap[z]?=some (.cells #[.int .i64 M.n,_,_] _ _);rw[br.block z (by omega) bt,aw.block z (by omega),bi.block z (by omega) bw,a8.block z t];exact L
     ·rw[M.e7 r];exact(b9.U aw).a4 br b2
     ·rw[M.e7 r];exact cg
     ·rw[M.e7 r];exact ch
     ·intro be J;rw[ci,a7.e8 r J be,av];constructor
      ·rintro(⟨a',bb⟩|q);·exact .inl ⟨bb,a'⟩
       ·exact .inr q
      ·rintro(⟨a',bb⟩|q);·exact .inl ⟨bb,a'⟩
       ·exact .inr q
     ·intro k j;rcases j with j|j;·exact .inl (bp k j)
      ·exact .inr ⟨by omega,by omega⟩
     ·intro k j;rcases j with j|j;·exact .inl (bq k j)
      ·exact .inr ⟨by omega,by omega⟩
     ·intro k j N;rcases N with N|N;·exact b2 k j N
      ·rcases j with j|j
       ·have:=a1 k (bp k j);omega
       ·omega
     ·rintro(j|j);·exact bw j
      ·have:=aK L;omega
     ·rintro(j|j);·exact bt j
      ·have:=aK L;omega
     ·intro k j;rcases j with j|j
      ·have:=a1 k j;omega
      ·exact j.2
     ·exact a7.add hi A b5

def St.new (n room:Int):St:=⟨[],[],n,room⟩

theorem look_nil (id:Int):look [] id=none:=by unfold look;split<;>simp

theorem St.hl {n room:Int}(s:0≤n)(t:n≤16)(q:0≤room)(z:room≤1048576):(St.new n room).wf:=
 ⟨s,t,fun id hid=>by simp[St.new]at hid,by simp[St.new],fun id r j=>by simp[St.new,look_nil]at j,fun r id s j=>by simp[St.new,look_nil]at j,by simp[St.len,St.new],q,z,by simp[St.len,St.new];exact q⟩

theorem Aq (n room:Int)(w:World)(E:0≤n)(I:n≤16)(z:0≤room)(q:room≤1048576) :
  Calls Tryz.prog 68 #[.int .i64 n,.int .i64 room] w fun e t=>∃A F,e=.returned (.tuple #[.pointer (some ⟨A,0,none⟩),.int .u8 0])∧aa w t∧(∀k,F k→w.heap.size≤k)∧ag F t A (St.new n room):=by
 go_enter Tryz.func68,Tryz.ntmps68
 go_wp2_with (first|(go_at_call 116;refine(sg _ _ z q).mono ?_;rintro e t ⟨rfl,rfl⟩)|(go_at_call 117;refine(vK _).mono ?_;rintro e w1 ⟨ib,rfl,L,j,J⟩))
 go_ret2
 refine⟨w1.heap.size,fun k=>w.heap.size≤k∧k<w1.heap.size+1,rfl,(((aa.refl w).alloc _).trans j).alloc _,fun k j=>j.1,?_⟩
 have S:=j.size
 simp only[World.size_alloc]at S L
 have K:(w1.alloc (.cells #[.int .i64 n,.pointer (some ⟨w.heap.size,0,none⟩),.pointer (some ⟨ib,0,none⟩)] 132)).heap[w.heap.size]?=some (.cells #[.slice none 0 0,.slice none 0 0,.int .i64 0,.int .i64 room] 194 (0,0)):=
  (aa.alloc (aa.refl w1) _).heap (j.heap (heap_alloc_new w _))
 refine⟨⟨w.heap.size,ib,List.replicate 8 none,fun k=>k=w.heap.size,fun k=>(w.alloc (.cells #[.slice none 0 0,.slice none 0 0,.int .i64 0,.int .i64 room] 194)).heap.size≤k∧k<w1.heap.size,heap_alloc_new w1 _,?_,?_,?_,?_,?_,?_,?_,?_,?_⟩,?_,?_,St.hl E I z q⟩
 ·refine⟨⟨_,_,K,?_,?_,?_,?_⟩,rfl,by simp[St.new],by simp[St.new,St.len],by simp[St.new,St.len],q,fun id hid=>by simp[St.new]at hid,fun r O=>by simp[St.new]at O⟩;·exact World.ownsRow_nil _ _ _ _
  ·exact World.ownsRow_nil _ _ _ _
  ·intro k j;simp[Value.ownBlock]at j
  ·intro k j;simp[Value.ownBlock]at j
 ·exact J.U ((aa.refl w1).alloc _)
 ·rw[(dD.empty aT 8).2.1];rfl
 ·intro r id;rw[show look (St.new n room).cs id=none from look_nil id];constructor;·intro s;exact((dD.empty aT 8).2.2 r id s).elim
  ·intro s;cases s
 ·intro k j;omega
 ·intro k j;simp only[World.size_alloc]at j;omega
 ·intro k j N;simp only[World.size_alloc]at N;omega
 ·omega
 ·omega
 ·omega
 ·intro k j;rw[World.size_alloc];exact j.2

end Go.Proofs.YtafkamlhimkbmaaGreat
