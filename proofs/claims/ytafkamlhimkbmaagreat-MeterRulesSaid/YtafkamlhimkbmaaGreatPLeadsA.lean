/-
  How a store lies in memory; the walks of its small functions.
-/
import Derived.Test.YtafkamlhimkbmaaGreatPIPut
import Derived.Test.YtafkamlhimkbmaaGreatPStA
namespace Go.Proofs.YtafkamlhimkbmaaGreat
set_option maxRecDepth 1000000
set_option maxHeartbeats 8000000
set_option linter.unusedSimpArgs false
set_option linter.unusedVariables false
open Go.RowKit
structure aq (F:Nat→Prop)(w:World)(sb:Nat)(M:St):Prop where
 h9:∃ab ib ts Fa Fi,w.heap[sb]?=some (.cells #[.int .i64 M.n,.pointer (some ⟨ab,0,none⟩),.pointer (some ⟨ib,0,none⟩)] 132 (0,0)) ∧
  dW Fa w ab M.cs M.gone M.len M.a7∧di Fi w ib ts M.len∧M.len=(c9 ts:Int)∧(∀r id,aK.has ts r id↔look M.cs id=some r) ∧
  (∀k,Fa k→F k)∧(∀k,Fi k→F k)∧(∀k,Fa k→¬Fi k)∧¬Fa sb∧¬Fi sb
 own:F sb
 lt:∀k,F k→k<w.heap.size
 wf:M.wf
theorem aq.keep {F G:Nat→Prop}{w s:World}{sb:Nat}{M:St}(h:aq F w sb M)(t:af G w s)(u:∀k,F k→¬G k):aq F s sb M:=by
 obtain⟨⟨T,ib,ts,J,N,D,U,V,W,X,E,I,Y⟩,z,O,Q⟩:=h;exact⟨⟨T,ib,ts,J,N,(t.block sb (bu D) (u _ z)).trans D,U.keep t (fun k s=>u _ (E k s)),V.keep t (fun k s=>u _ (I k s)),W,X,E,I,Y⟩,z,fun k s=>dz (O k s) t.size,Q⟩
theorem aq.U {F:Nat→Prop}{w s:World}{sb:Nat}{M:St}(h:aq F w sb M)(t:ae w s):aq F s sb M:=
 h.keep (t.upd (fun _=>False)) (fun _ _ h=>h)
theorem aq.b5 {F:Nat→Prop}{w:World}{sb:Nat}{M:St}(h:aq F w sb M):M.b5:=h.wf.b5
theorem aq.b7 {F:Nat→Prop}{w:World}{sb:Nat}{M:St}(h:aq F w sb M){id:Int}{r:Rec}(u:look M.cs id=some r):r.ok:=by
 obtain⟨⟨D,ib,ts,t,z,E,s,_⟩,_⟩:=h;obtain⟨_,_,t⟩:=cC u;exact s.b7 r (dy t)
theorem Rec.gn:Rec.zero.ok:=⟨by decide,by decide,by decide,⟨by decide,by decide⟩,⟨by decide,by decide⟩⟩
theorem aq.hH {F:Nat→Prop}{w:World}{sb:Nat}{M:St}(h:aq F w sb M)(id:Int):(aS (look M.cs id)).ok:=by
 cases s:look M.cs id with
 |none=>exact Rec.gn
 |some r=>exact h.b7 s
theorem cX {F:Nat→Prop}{w:World}{sb:Nat}{M:St}(h:aq F w sb M) :
  Calls Tryz.prog 48 #[.pointer (some ⟨sb,0,none⟩)] w fun e u=>e=.returned (.int .i64 M.n)∧w=u:=by
 obtain⟨⟨D,ib,ts,u,z,s,t,-⟩,-⟩:=h
 have u:w.cell? ⟨sb,0,none⟩=some (.int .i64 M.n):=by rw[cell_of_row w sb 0 _ _ _ s];rfl
 clear s t
 go_enter Tryz.func48,Tryz.ntmps48
 go_wp2
 go_ret
 exact⟨rfl,rfl⟩
theorem fO {F:Nat→Prop}{w:World}{sb:Nat}{M:St}(h:aq F w sb M)(id:Int)(hid:id≤4294967295) :
  Calls Tryz.prog 78 #[.pointer (some ⟨sb,0,none⟩),.int .u32 id] w fun e D=>
   e=.returned (.tuple #[.agg #[.int .u8 (aS (look M.cs id)).ad,.int .u8 (aS (look M.cs id)).top,.int .u8 (aS (look M.cs id)).J,.int .u8 (aS (look M.cs id)).lo.tag,.int .u32 (aS (look M.cs id)).lo.to,.int .u8 (aS (look M.cs id)).hi.tag,.int .u32 (aS (look M.cs id)).hi.to],.bool (iH (look M.cs id))])∧ae w D:=by
 obtain⟨⟨D,ib,ts,V,W,s,u,-⟩,-⟩:=h
 have V:w.cell? ⟨sb,1,none⟩=some (.pointer (some ⟨D,0,none⟩)):=by rw[cell_of_row w sb 1 _ _ _ s];rfl
 have D:=bu s
 have H:=aa u
 clear s u
 go_enter Tryz.func78,Tryz.ntmps78
 go_wp2_with (go_at_call 133;refine(lr (H.out.U kp) id hid).mono ?_;rintro e w1 ⟨rfl,t⟩;obtain⟨I,J,N,O,Q,T,U⟩:=fZ (w:=w) (w1:=w1) t;have z:ae w w1:=kp;obtain⟨s,u⟩:=t.cells;obtain⟨s,u⟩:=z.cells;have E:=t.size;(try simp only[ak,World.e6,World.a6,aA]at E);have s:=z.size;have s:w.heap.size<w1.heap.size:=(by omega))
 refine an (v:=.tuple #[.agg #[.int .u8 (aS (look M.cs id)).ad,.int .u8 (aS (look M.cs id)).top,.int .u8 (aS (look M.cs id)).J,.int .u8 (aS (look M.cs id)).lo.tag,.int .u32 (aS (look M.cs id)).lo.to,.int .u8 (aS (look M.cs id)).hi.tag,.int .u32 (aS (look M.cs id)).hi.to],.bool (iH (look M.cs id))]) (by simp[results,Tryz.results78,go_sem,I,J,N,O,Q,T,U]) rfl ⟨rfl,kp⟩
theorem uZ (M:St)(f:Int)(e:Edge)(l:Int)(t:eH f e l M.n=true)(s:¬e.to<2) :
  M.leads f e l=(iH (look M.cs e.to)&&(aS (look M.cs e.to)).ad==f&&decide (l≤(aS (look M.cs e.to)).top)&&decide (e.tag≤(aS (look M.cs e.to)).top)):=by
 unfold St.leads
 rw[t]
 simp only[Bool.true_and,bQ s,Bool.false_or]
 cases look M.cs e.to with
 |none=>rfl
 |some r=>show _=(true&&_&&_&&_);simp only[Bool.true_and];rfl
theorem u6 (sb Q:Nat)(f t a l n:Int)(x:Rec)(b:Bool)(w:World)(ah:0≤t)(al:t≤255)(ad:x.ok)
  (D:w.cell? ⟨sb,0,none⟩=some (.int .i64 n)) (J:w.cell? ⟨sb,1,none⟩=some (.pointer (some ⟨Q,0,none⟩)))
  (Y:∀O,ae w O→Calls Tryz.prog 133 #[.pointer (some ⟨Q,0,none⟩),.int .u32 a] O fun e s=>e=.returned (.tuple #[.agg #[.int .u8 x.ad,.int .u8 x.top,.int .u8 x.J,.int .u8 x.lo.tag,.int .u32 x.lo.to,.int .u8 x.hi.tag,.int .u32 x.hi.to],.bool b])∧ae O s) :
  Calls Tryz.prog 134 #[.pointer (some ⟨sb,0,none⟩),.int .u8 f,.agg #[.int .u8 t,.int .u32 a],.int .i64 l] w fun e s=>
   e=.returned (.bool (eH f ⟨t,a⟩ l n&&(decide (a<2)||(b&&x.ad==f&&decide (l≤x.top)&&decide (t≤x.top)))))∧ae w s:=by
 have O:sb<w.heap.size:=aJ D
 obtain⟨O,⟨av,aw⟩,ah,al,am⟩:=ad
 have H:=aa Y
 clear Y O ah al am
 have O:w.heap.size+1≠sb:=by omega
 cases O:eH f ⟨t,a⟩ l n with
 |false=>
  go_enter Tryz.func134,Tryz.ntmps134;go_wp2_with fail;go_region_held3 (fun s=>s.cell? ⟨sb,0,none⟩=some (.int .i64 n)∧s.cell? ⟨w.heap.size,0,none⟩=some (.int .u8 t)∧s.cell? ⟨w.heap.size,1,none⟩=some (.int .u32 a)) (go_keep) ((first|(go_at_call 199;refine(kJ _ _ _ _ _ _ (by omega) (by omega)).mono ?_;rintro e' w1 ⟨rfl,E⟩;have u:ae (w.alloc (.cells #[.int .u8 t,.int .u32 a] 52)) w1:=kp;have V:w1.cell? ⟨w.heap.size,0,none⟩=some (.int .u8 t):=u.cell (by simp);have W:w1.cell? ⟨w.heap.size,1,none⟩=some (.int .u32 a):=u.cell (by simp);have z:ae w w1:=(((ae.refl _).alloc _).trans u);have I:=u.size;simp only[ak]at I;have T:=z.cell D;have U:=z.cell J)))
  all_goals(go_wp2;go_ret;exact⟨rfl,kp⟩)
 |true=>
  by_cases Z:a<2
  ·go_enter Tryz.func134,Tryz.ntmps134;go_wp2_with fail;go_region_held3 (fun s=>s.cell? ⟨sb,0,none⟩=some (.int .i64 n)∧s.cell? ⟨w.heap.size,0,none⟩=some (.int .u8 t)∧s.cell? ⟨w.heap.size,1,none⟩=some (.int .u32 a)) (go_keep) ((first|(go_at_call 199;refine(kJ _ _ _ _ _ _ (by omega) (by omega)).mono ?_;rintro e' w1 ⟨rfl,E⟩;have u:ae (w.alloc (.cells #[.int .u8 t,.int .u32 a] 52)) w1:=kp;have V:w1.cell? ⟨w.heap.size,0,none⟩=some (.int .u8 t):=u.cell (by simp);have W:w1.cell? ⟨w.heap.size,1,none⟩=some (.int .u32 a):=u.cell (by simp);have z:ae w w1:=(((ae.refl _).alloc _).trans u);have I:=u.size;simp only[ak]at I;have T:=z.cell D;have U:=z.cell J)))
   all_goals(go_wp2;go_ret;exact⟨by simp[Z],kp⟩)
  ·go_enter Tryz.func134,Tryz.ntmps134;go_wp2_with fail;go_region_held3 (fun s=>s.cell? ⟨sb,0,none⟩=some (.int .i64 n)∧s.cell? ⟨w.heap.size,0,none⟩=some (.int .u8 t)∧s.cell? ⟨w.heap.size,1,none⟩=some (.int .u32 a)) (go_keep) ((first|(go_at_call 199;refine(kJ _ _ _ _ _ _ (by omega) (by omega)).mono ?_;rintro e' w1 ⟨rfl,E⟩;have u:ae (w.alloc (.cells #[.int .u8 t,.int .u32 a] 52)) w1:=kp;have V:w1.cell? ⟨w.heap.size,0,none⟩=some (.int .u8 t):=u.cell (by simp);have W:w1.cell? ⟨w.heap.size,1,none⟩=some (.int .u32 a):=u.cell (by simp);have z:ae w w1:=(((ae.refl _).alloc _).trans u);have I:=u.size;simp only[ak]at I;have T:=z.cell D;have U:=z.cell J)))
   go_wp2;have I:sb<w1.heap.size:=(by omega);have I:w1.heap.size≠sb:=(by omega);have I:w1.heap.size≠w.heap.size:=(by omega);have X:=aa z;clear E z D J u T;go_region_held3 (fun s=>s.cell? ⟨sb,1,none⟩=some (.pointer (some ⟨Q,0,none⟩))∧s.cell? ⟨w.heap.size,0,none⟩=some (.int .u8 t)∧s.cell? ⟨w.heap.size,1,none⟩=some (.int .u32 a)) (go_keep) ((first|(go_at_call 133;have ab:=X.out;refine(H.out _ kp).mono ?_;rintro e' N ⟨rfl,E⟩;obtain⟨s,t⟩:=E.cells;have s:ae w1 N:=kp;have t:=s.cell V;have t:=s.cell W;have t:=s.cell U;have t:=s.size;have s:N.heap.size≠sb:=(by omega);have s:N.heap.size≠w.heap.size:=(by omega);have s:w.heap.size<N.heap.size:=(by omega))))
   all_goals go_wp2
   all_goals(go_ret;have ab:=X.out;refine⟨?_,kp⟩)
   all_goals simp_all
   all_goals(try omega)
theorem df {F:Nat→Prop}{w:World}{sb:Nat}{M:St}(h:aq F w sb M)(f:Int)(e:Edge)(l:Int)(he:e.ok) :
  Calls Tryz.prog 134 #[.pointer (some ⟨sb,0,none⟩),.int .u8 f,.agg #[.int .u8 e.tag,.int .u32 e.to],.int .i64 l] w fun r D=>r=.returned (.bool (M.leads f e l))∧ae w D:=by
 have J:=h.hH e.to
 obtain⟨⟨u,ib,ts,N,O,z,s,-⟩,-⟩:=h
 have E:w.cell? ⟨sb,0,none⟩=some (.int .i64 M.n):=by rw[cell_of_row w sb 0 _ _ _ z];rfl
 have I:w.cell? ⟨sb,1,none⟩=some (.pointer (some ⟨u,0,none⟩)):=by rw[cell_of_row w sb 1 _ _ _ z];rfl
 refine(u6 sb u f e.tag e.to l M.n (aS (look M.cs e.to)) (iH (look M.cs e.to)) w he.1.1 he.1.2 J E I (fun u u=>lr (s.U u) e.to he.2.2)).mono ?_
 rintro r D ⟨rfl,u⟩
 refine⟨?_,u⟩
 congr 2
 cases t:eH f e l M.n with
 |false=>simp[St.leads,t]
 |true=>
  by_cases s:e.to<2;·simp[St.leads,t,s]
  ·rw[uZ M f e l t s];simp[s]
end Go.Proofs.YtafkamlhimkbmaaGreat
