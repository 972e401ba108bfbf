/-
  ramageref05.Of: the set of a table.
-/
import Derived.Test.YtafkamlhimkbmaaGreatPTermsS
namespace Go.Proofs.YtafkamlhimkbmaaGreat
set_option maxRecDepth 1000000
set_option maxHeartbeats 8000000
set_option linter.unusedSimpArgs false
set_option linter.unusedVariables false
open Go.RowKit

def ei (ts:List Bool)(x j:Nat):Nat:=eM ((ts.drop (max x (64*j))).take (64*(j+1)-max x (64*j)))

theorem CE (ts:List Bool)(j:Nat):ei ts ts.length j=0:=by
 unfold ei;rw[List.drop_of_length_le (by omega),List.take_nil];rfl

theorem CF (ts:List Bool)(j:Nat):ei ts 0 j=eM ((ts.drop (64*j)).take 64):=by
 unfold ei;rw[show max 0 (64*j)=64*j by omega,show 64*(j+1)-64*j=64 by omega]

theorem sf {ts:List Bool}{x:Nat}{b:Bool}(j:ts[x]?=some b):ei ts x (x / 64)=(if b then 1 else 0)+2*ei ts (x+1) (x / 64):=by
 obtain⟨s,q⟩:=List.getElem?_eq_some_iff.1 j;unfold ei;rw[show max x (64*(x / 64))=x by omega,show max (x+1) (64*(x / 64))=x+1 by omega,List.drop_eq_getElem_cons s,q,show 64*(x / 64+1)-x=(64*(x / 64+1)-(x+1))+1 by omega,List.take_succ_cons];rfl

theorem CC {ts:List Bool}{x j:Nat}(q:¬j=x / 64):ei ts x j=ei ts (x+1) j:=by
 unfold ei;by_cases h:x<64*j;·rw[show max x (64*j)=64*j by omega,show max (x+1) (64*j)=64*j by omega]
 ·rw[show 64*(j+1)-max x (64*j)=0 by omega,show 64*(j+1)-max (x+1) (64*j)=0 by omega,List.take_zero,List.take_zero]

theorem CD (ts:List Bool)(x:Nat):ei ts (x+1) (x / 64)<2 ^ 63:=by
 unfold ei;have j:=mX ((ts.drop (max (x+1) (64*(x / 64)))).take (64*(x / 64+1)-max (x+1) (64*(x / 64))));have q:((ts.drop (max (x+1) (64*(x / 64)))).take (64*(x / 64+1)-max (x+1) (64*(x / 64)))).length≤63:=by rw[List.length_take];omega
 exact Nat.lt_of_lt_of_le j (Nat.pow_le_pow_right (by decide) q)

theorem sg {ts:List Bool}{t:List Int}{x:Nat}{b:Bool}{v y:Int}(A:∀(j:Nat) (v:Int),t[j]?=some v→v=(ei ts (x+1) j:Int))(E:ts[x]?=some b)(z:t[x / 64]?=some v)(I:y=(if b then 1 else 0)+2*v)(j:Nat)(u:Int)(q:(t.set (x / 64) y)[j]?=some u):u=(ei ts x j:Int):=by
 by_cases s:j=x / 64
 ·subst s;rw[List.getElem?_set_self (List.getElem?_eq_some_iff.1 z).1]at q;have t:=A _ v z;rw[←Option.some.inj q,I,sf E,t];cases b<;>simp
 ·rw[List.getElem?_set_ne (fun e=>s e.symm)]at q;rw[CC s];exact A j u q

theorem CJ {ts:List Bool}{x:Int}(h:x∈bB ts):0≤x∧x<2 ^ 64:=by
 unfold bB at h;obtain⟨w,_,rfl⟩:=List.mem_map.1 h;have j:=mX ((ts.drop (64*w)).take 64);have j:((ts.drop (64*w)).take 64).length≤64:=by rw[List.length_take];omega
 have q:2 ^ ((ts.drop (64*w)).take 64).length≤2 ^ 64:=Nat.pow_le_pow_right (by decide) j;have j:(2:Nat) ^ 64=18446744073709551616:=rfl;have j:(2:Int) ^ 64=18446744073709551616:=rfl;omega

theorem zX (n:Int)(B cap:Nat)(ts:List Bool)(w:World)(a6:bu w B ts)(bx:ts.length≤65536)(a':1≤ts.length) :
  Calls Tryz.prog 46 #[.int .i64 n,.slice (some ⟨B,0,none⟩) ts.length cap] w fun e w'=>∃g,w.heap.size≤g∧e=.returned (.agg #[.int .i64 n,.slice (some ⟨g,0,none⟩) (bB ts).length (bB ts).length])∧cK w' g (bB ts)∧aa w w':=by
 have L:=lH ts
 obtain⟨b3,s,b4,b5,b6⟩:=info_parts wE
 obtain⟨I,ab⟩:∃I,I=ts.length:=⟨_,rfl⟩
 rw[←ab]at bx a' L ⊢
 obtain⟨q,a7⟩:∃q,q=(I+63) / 64:=⟨_,rfl⟩
 rw[←a7]at L
 rw[L]
 have aw:=Lib.hid a6
 have a3:=Lib.hid ab
 have Z:=Lib.hid L
 have a8:((I:Int)+63) / 64=(q:Int):=by omega
 have a':q≤1025:=by omega
 have a':∀x:Nat,x<I→x / 64<q:=fun x bx=>by omega
 have bs:=Lib.hid a'
 clear a6 ab L a' a7
 go_enter Tryz.func46,Tryz.ntmps46
 go_wp2_with (first
  |(at_make;refine wpList_make_full _ rfl _ _ 103 rfl (w.heap.size+1) 56 b3 (.int .u64 0) 1 Tryz.underlying103 s b4 b5 .i64 .i64 _ _ q rfl rfl a8 a8 (by rw[b6];omega) (by unfold maxLen;omega) (by simp) ?_;intro w1 am O)
  |fail)
 rw[World.size_alloc]at am
 have bt:=Lib.hid (zH am)
 have S:aa (w.alloc (.cells #[.int .i64 0,.slice none 0 0] 105)) w1:=⟨O.os,O.tape,O.output,O.size,fun i hi=>O.block i hi (by simp)⟩
 have a2:=Lib.hid (((aa.refl w).alloc _).trans S)
 have bn:=S.cell (a:=⟨w.heap.size,0,none⟩) (v:=.int .i64 0) (by simp[go_sem])
 have bp:=S.cell (a:=⟨w.heap.size,1,none⟩) (v:=.slice none 0 0) (by simp[go_sem])
 have bq:=fun o:Nat=>S.a2 (a:=⟨w.heap.size,o,none⟩) (by simp) (by simp[go_sem])
 have b7:=S.size
 simp only[World.size_alloc]at b7
 clear am O S
 go_wp2_with fail
 go_loopg [6] I (fun gk O wr=>∃A:List Int,O=.int .i64 ((gk:Int)-1)∧gk≤I∧A.length=q∧(∀(j:Nat) (v:Int),A[j]?=some v→v=(ei ts gk j:Int))∧cK wr (w.heap.size+1) A∧ae (fun k=>k=w.heap.size+1) w1 wr)
 case atStart=>exact⟨List.replicate q 0,rfl,Nat.le_refl _,by simp,fun j v t=>by
  have s:j<q:=by have:=(List.getElem?_eq_some_iff.1 t).1;simpa using this
  rw[List.getElem?_replicate,if_pos s]at t;rw[←Option.some.inj t,a3.out,CE]
  rfl,bt.out,ae.refl _ _⟩
 case round=>
  obtain⟨A,rfl,a6,ab,am,O,S⟩:=hrel;have N:=Lib.hid O;have T:=Lib.hid S;have U:=Lib.hid am;have E:=Lib.hid ab;clear O S am ab;by_cases O:0<gk
  ·obtain⟨x,b1⟩:∃x,x=gk-1:=⟨_,rfl⟩;have be:gk=x+1:=(by omega);have J:=Lib.hid be;rw[show((gk:Int)-1)=(x:Int)from by omega];have bi:x<I:=(by omega);have Y:=bs.out x bi;obtain⟨v,t⟩:∃b,A[x / 64]?=some b:=⟨_,List.getElem?_eq_getElem (by rw[E.out];exact Y)⟩;have av:=U.out _ v t;have b0:=CD ts x;rw[J.out]at av;have I:0≤v:=by omega
   have I:v≤9223372036854775807:=by
    have I:(2:Nat) ^ 63=9223372036854775808:=rfl;omega
   obtain⟨b,W⟩:∃b,ts[x]?=some b:=⟨_,List.getElem?_eq_getElem (by rw[←a3.out];exact bi)⟩;have X:=(a2.out.new T.out (fun k bg=>by omega));have I:=(aw.out.a5 (aa.av X (fun _=>False)) (fun h=>h)).cell W;have O:=N.out.cell t;have O:=N.out.frozen (x / 64);have bw:=aD I;have I:=N.out.lt;dsimp only at bw;have a4:=Lib.hid t;have I:=Lib.hid av;have a1:=Lib.hid W;have I:w.heap.size+1≠B:=fun e=>(by have:=aw.out.lt;omega);have O:B≠w.heap.size+1:=fun e=>I e.symm;have I:=sf W;have O:=Lib.hid I;clear t av b0 W b1 be I;cases b with
   |true=>
    go_wp2_with fail
    go_roundg (gk-1)
    case rel=>
     refine⟨A.set (x / 64) (2*v+1),congrArg (Value.int .i64) (by have:=J.out;omega),by omega,by rw[List.length_set,E.out],fun j u s=>?_,?_,?_⟩
     ·have:=J.out;rw[show gk-1=x from by omega];exact sg (fun j v h=>by have z:=U.out j v h;rw[J.out]at z;exact z) a1.out a4.out (by simp;omega) j u s
     ·have:=(N.out.set (x / 64) (2*v) (by rw[E.out];exact Y)).set (x / 64) (2*v+1) (by rw[List.length_set,E.out];exact Y);rwa[List.set_set]at this
     ·exact(T.out.setCell (p:=⟨w.heap.size+1,x / 64,none⟩) (.inl rfl) _).setCell (p:=⟨w.heap.size+1,x / 64,none⟩) (.inl rfl) _
    case measure=>omega
   |false=>
    go_wp2_with fail
    go_roundg (gk-1)
    case rel=>
     refine⟨A.set (x / 64) (2*v),congrArg (Value.int .i64) (by have:=J.out;omega),by omega,by rw[List.length_set,E.out],fun j u s=>?_,?_,?_⟩
     ·have:=J.out;rw[show gk-1=x from by omega];exact sg (fun j v h=>by have z:=U.out j v h;rw[J.out]at z;exact z) a1.out a4.out (by simp) j u s
     ·exact N.out.set (x / 64) (2*v) (by rw[E.out];exact Y)
     ·exact T.out.setCell (p:=⟨w.heap.size+1,x / 64,none⟩) (.inl rfl) _
    case measure=>omega
  ·have b2:gk=0:=(by omega);subst b2
   have bb:A=bB ts:=by
    apply List.ext_getElem?;intro j;by_cases s:j<q
    ·obtain⟨v,t⟩:∃b,A[j]?=some b:=⟨_,List.getElem?_eq_getElem (by rw[E.out];exact s)⟩;have a5:=U.out j v t;rw[CF]at a5;have z:=ow (ts:=ts) (w:=j) (by rw[←lH,Z.out];exact s);rw[List.getD_eq_getElem?_getD]at z;obtain⟨u,A⟩:∃b,(bB ts)[j]?=some b:=⟨_,List.getElem?_eq_getElem (by rw[Z.out];exact s)⟩;rw[A]at z;rw[t,A,a5,←z];rfl
    ·rw[List.getElem?_eq_none (by rw[E.out];omega),List.getElem?_eq_none (by rw[Z.out];omega)]
   have ad:=N.out;rw[bb]at ad;have K:=T.out;have b8:=K.cellAt (by omega) bn;have b9:=K.cellAt (by omega) bp;have j:=fun o:Nat=>K.frozen (a:=⟨w.heap.size,o,none⟩) (by dsimp only;omega) (by dsimp only;omega) (bq o);have X:=(a2.out.new K (fun k bg=>by omega));have j:=K.size;have L:w.heap.size<wr.heap.size:=(by omega);have bv:=Lib.hid ad;have j:=Lib.hid K;have br:=Lib.hid X;clear ad K X bn bp bq bb;go_wp2_with fail
   refine bodyPost_ret (v:=.agg #[.int .i64 n,.slice (some ⟨w.heap.size+1,0,none⟩) q q]) (by simp[results,Tryz.results46,go_sem,b8,b9,L]) rfl ⟨w.heap.size+1,by omega,rfl,?_,?_⟩;·exact bv.out.a5 ((ae.refl (fun k=>k=w.heap.size) wr).setCell (p:=⟨w.heap.size,0,none⟩) (.inl rfl) _ |>.setCell (p:=⟨w.heap.size,1,none⟩) (.inl rfl) _) (by omega)
   ·exact br.out.new ((ae.refl (fun k=>k=w.heap.size) wr).setCell (p:=⟨w.heap.size,0,none⟩) (.inl rfl) _ |>.setCell (p:=⟨w.heap.size,1,none⟩) (.inl rfl) _) (fun k bg=>by omega)

def aP (j:List Int→Nat)(g:Nat):Nat→List Int→Nat→Nat→Nat→List Int×Nat×Nat×Nat
 |0,ps,a,b,m=>(ps,a,b,m)
 |k+1,ps,a,b,m=>
  if(100+g)*min m (j (aq ps a))<100*j (aq ps a)then(aq ps a,a+1,if j (aq ps a)<m then a+1 else b,min m (j (aq ps a)))
  else aP j g k (aq ps a) (a+1) (if j (aq ps a)<m then a+1 else b) (min m (j (aq ps a)))

def bV (j:List Int→Nat)(g:Nat):Nat→List Int→Nat→Nat→List Int×Nat×Nat×Nat
 |0,ps,b,m=>(ps,0,b,m)
 |a+1,ps,b,m=>
  if(100+g)*min m (j (aq ps a))<100*j (aq ps a)then(aq ps a,a,if j (aq ps a)<m then a else b,min m (j (aq ps a)))
  else bV j g a (aq ps a) (if j (aq ps a)<m then a else b) (min m (j (aq ps a)))

structure oG (n:Nat)(p0:List Int)(m:Nat)(t:List Int×Nat×Nat×Nat):Prop where
 len:t.1.length=n
 perm:ar p0=true→ar t.1=true
 cj:t.2.1<n
 db:t.2.2.1<n
 eb:t.2.2.2≤m

theorem lD (q:List Int→Nat)(g n:Nat):∀(k:Nat) (ps:List Int) (a b m:Nat),ps.length=n→a+k+1=n→b<n→oG n ps m (aP q g k ps a b m):=by
 intro k;induction k with
 |zero=>intro ps a b m j z s;exact⟨j,fun h=>h,by show a<n;omega,s,Nat.le_refl _⟩
 |succ k A=>
  intro ps a b m j z s;have t:(if q (aq ps a)<m then a+1 else b)<n:=by split<;>omega
  unfold aP;split;·exact⟨by rw[ck];exact j,gy (by omega),by show a+1<n;omega,t,Nat.min_le_left _ _⟩
  ·have h:=A (aq ps a) (a+1) (if q (aq ps a)<m then a+1 else b) (min m (q (aq ps a))) (by rw[ck];exact j) (by omega) t;exact⟨h.len,fun j=>h.perm (gy (by omega) j),h.cj,h.db,Nat.le_trans h.eb (Nat.min_le_left _ _)⟩

theorem lE (q:List Int→Nat)(g n:Nat):∀(a:Nat) (ps:List Int) (b m:Nat),ps.length=n→a<n→b<n→oG n ps m (bV q g a ps b m):=by
 intro a;induction a with
 |zero=>intro ps b m j s t;exact⟨j,fun h=>h,s,t,Nat.le_refl _⟩
 |succ a A=>
  intro ps b m j s t;have z:(if q (aq ps a)<m then a else b)<n:=by split<;>omega
  unfold bV;split;·exact⟨by rw[ck];exact j,gy (by omega),by show a<n;omega,z,Nat.min_le_left _ _⟩
  ·have h:=A (aq ps a) (if q (aq ps a)<m then a else b) (min m (q (aq ps a))) (by rw[ck];exact j) (by omega) z;exact⟨h.len,fun j=>h.perm (gy (by omega) j),h.cj,h.db,Nat.le_trans h.eb (Nat.min_le_left _ _)⟩

def gw (q:List Int→Nat)(g:Nat)(ps:List Int)(a:Nat):List Int:=
 let j:=aP q g (ps.length-1-a) ps a a (q ps)
 let u:=bV q g j.2.1 j.1 j.2.2.1 j.2.2.2
 aJ u.1 (bA u.2.1 u.2.2.1)

theorem yk (j:List Int→Nat)(g:Nat){ps:List Int}{a:Nat}(s:a<ps.length):(gw j g ps a).length=ps.length∧(ar ps=true→ar (gw j g ps a)=true):=by
 have q:=lD j g ps.length (ps.length-1-a) ps a a (j ps) rfl (by omega) s;have u:=lE j g ps.length _ _ (aP j g (ps.length-1-a) ps a a (j ps)).2.2.1 (aP j g (ps.length-1-a) ps a a (j ps)).2.2.2 q.len q.cj q.db;refine⟨(eP _ _).trans u.len,fun j=>qQ _ _ (fun t s=>?_) (u.perm (q.perm j))⟩;rw[u.len];exact xW u.cj u.db s

def cH (j:List Int→Nat)(g:Nat)(ps:List Int):Nat→List Int
 |0=>ps
 |v+1=>gw j g (cH j g ps v) ((cH j g ps v).idxOf (v:Int))

theorem jO (j:List Int→Nat)(g:Nat){ps:List Int}(z:ar ps=true):∀v,v≤ps.length→(cH j g ps v).length=ps.length∧ar (cH j g ps v)=true:=by
 intro v;induction v with
 |zero=>intro _;exact⟨rfl,z⟩
 |succ v A=>
  intro z;obtain⟨s,q⟩:=A (by omega);have z:=kZ q (v:=(v:Int)) (by omega) (by omega);have t:(cH j g ps v).idxOf (v:Int)<(cH j g ps v).length:=List.idxOf_lt_length_of_mem z;obtain⟨z,A⟩:=yk j g t;exact⟨z.trans s,A q⟩

end Go.Proofs.YtafkamlhimkbmaaGreat
