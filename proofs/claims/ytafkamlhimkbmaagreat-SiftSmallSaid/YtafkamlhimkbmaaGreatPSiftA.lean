/-
  A bed: a swept store, an order, roots in a row of their own.
-/
import Derived.Test.YtafkamlhimkbmaaGreatPTermsS
namespace Go.Proofs.YtafkamlhimkbmaaGreat
set_option maxRecDepth 1000000
set_option maxHeartbeats 8000000
set_option linter.unusedSimpArgs false
set_option linter.unusedVariables false
open Go.RowKit

theorem rD (M:St)(roots:List Int):az (cM M roots) M:=⟨rfl,fun _ _ h=>(jD.1 h).1⟩

theorem rE {F:Nat→Prop}{w:World}{j:Nat}{M:St}(h:ag F w j M)(roots:List Int):(cM M roots).len=((aQ M.cs roots).length:Int):=by
 have j:=yx M roots;have j:=wj h;rw[nY];omega

theorem fr.e3 {M:St}{f:Int}{ps:List Int}{has:Nat→Bool}{x:Edge}(h:fr M f ps has x){roots:List Int}(t:x.to∈roots)(q:(cM M roots).wf):fr (cM M roots) f ps has x:=by
 have j:=mG (roots:=roots) h.lead (fun s=>Reaches.root t s);exact⟨h.ok,j,lj (rD M roots) q j h.right,by rw[←lC q (rD M roots) j];exact h.d'⟩

def eC (ps:List Int)(fs:List (Int×List Bool)):List (Int×List Bool):=fs.map (fun r=>(r.1,bR (hasB (bB r.2)) ps 0))

def ai (fs:List (Int×List Bool))(ps:List Int):Nat:=nX ps.length (eC ps fs)

def ct (M:St)(ps:List Int)(fs:List (Int×List Bool))(rs:List (Int×Edge)):Prop:=
 rs.length=fs.length∧∀(i:Nat) (j:Int×List Bool) (r:Int×Edge),fs[i]?=some j→rs[i]?=some r→r.1=j.1∧(1≤r.1∧r.1≤5)∧fr M r.1 ps (hasB (bB j.2)) r.2

theorem ct.leads {M:St}{ps:List Int}{fs:List (Int×List Bool)}{rs:List (Int×Edge)}(h:ct M ps fs rs):∀r∈rs,(1≤r.1∧r.1≤5)∧M.leads r.1 r.2 0=true:=fun r j=>by
 obtain⟨i,hi⟩:=List.mem_iff_getElem?.1 j;have j:=(List.getElem?_eq_some_iff.1 hi).1;obtain⟨s,j,q⟩:=h.2 i (fs[i]'(by have:=h.1;omega)) r (List.getElem?_eq_getElem (by have:=h.1;omega)) hi;exact⟨j,q.lead⟩

theorem ct.e' {M:St}{ps:List Int}{fs:List (Int×List Bool)}{rs:List (Int×Edge)}(h:ct M ps fs rs):∀r∈rs,r.2.ok:=fun r j=>by
 obtain⟨i,hi⟩:=List.mem_iff_getElem?.1 j;have j:=(List.getElem?_eq_some_iff.1 hi).1;obtain⟨q,s,j⟩:=h.2 i (fs[i]'(by have:=h.1;omega)) r (List.getElem?_eq_getElem (by have:=h.1;omega)) hi;exact j.ok

theorem ct.cj {F:Nat→Prop}{w:World}{I:Nat}{M:St}{ps:List Int}{fs:List (Int×List Bool)}{rs:List (Int×Edge)}(hS:ag F w I M)(E:ar ps=true)(z:M.n=(ps.length:Int))(A:ps.length≤6)(J:M.len+64≤1048576)(h:ct M ps fs rs):lO M ps.length (eC ps fs) (rs.map Prod.snd):=by
 have I:2 ^ ps.length≤2 ^ 6:=Nat.pow_le_pow_right (by decide) A;have A:(2:Nat) ^ 6=64:=rfl;refine⟨by simp[eC,h.1],fun i A e j q=>?_⟩;unfold eC at j;rw[List.getElem?_map]at j q;cases s:fs[i]? with
 |none=>rw[s]at j;cases j
 |some g=>
  cases t:rs[i]? with
  |none=>rw[t]at q;cases q
  |some r=>
   rw[s]at j;rw[t]at q;cases j;cases q;obtain⟨q,A,j⟩:=h.2 i g r s t;refine⟨by rw[←q];exact A,⟨by rw[←q];exact j.lead,j.ok.2.1,by push_cast;omega⟩,?_⟩;show ay g.1 M (ps.length+1) r.2=bj g.1 ps.length (bR (hasB (bB g.2)) ps 0) 0;rw[←q,qL A (hS.fa _ (by omega)) j.lead j.right j.ok.2.1 hS.g1 z (by omega),rI E z j.d']

theorem ct.size {F:Nat→Prop}{w:World}{j:Nat}{M:St}{ps:List Int}{fs:List (Int×List Bool)}{rs:List (Int×Edge)}(hS:ag F w j M)(E:ar ps=true)(A:M.n=(ps.length:Int))(t:ps.length≤6)(z:M.len+64≤1048576)(h:ct M ps fs rs) :
  (aQ M.cs ((rs.map Prod.snd).map Edge.to)).length=ai fs ps∧ai fs ps≤fs.length*127:=by
 have j:=h.cj hS E A t z
 have q:=AD (fun f=>hS.fa f (by omega)) j
 have s:=zp (fun f=>hS.fa f (by omega)) j
 have j:2 ^ (ps.length+1)≤2 ^ 7:=Nat.pow_le_pow_right (by decide) (by omega)
 have j:(2:Nat) ^ 7=128:=rfl
 have j:(rs.map Prod.snd).length*(2 ^ (ps.length+1)-1)≤(rs.map Prod.snd).length*127:=Nat.mul_le_mul_left _ (by omega)
 rw[List.length_map,h.1]at s j
 exact⟨q,by unfold ai;omega⟩

theorem ct.e3 {M:St}{ps:List Int}{fs:List (Int×List Bool)}{rs:List (Int×Edge)}(h:ct M ps fs rs)(s:(cM M ((rs.map Prod.snd).map Edge.to)).wf):ct (cM M ((rs.map Prod.snd).map Edge.to)) ps fs rs:=
 ⟨h.1,fun i E r q j=>by
  obtain⟨t,z,A⟩:=h.2 i E r q j
  exact⟨t,z,A.e3 (List.mem_map.2 ⟨r.2,List.mem_map.2 ⟨r,List.mem_of_getElem? j,rfl⟩,rfl⟩) s⟩⟩

theorem ct.step {M M':St}{ps:List Int}{ss:List Nat}{fs:List (Int×List Bool)}{rs s:List (Int×Edge)}{es:List Edge}(h:ct M ps fs rs)(z:ic ps.length ss M M' rs es)(E:s.length=rs.length)(I:∀(i:Nat) (r:Int×Edge) (e:Edge),rs[i]?=some r→es[i]?=some e→s[i]?=some (r.1,e)):ct M' (aJ ps ss) fs s:=
 ⟨E.trans h.1,fun i O r A q=>by
  have s:=(List.getElem?_eq_some_iff.1 q).1;have s:=z.1;have j:rs[i]?=some (rs[i]'(by omega)):=List.getElem?_eq_getElem (by omega);have t:es[i]?=some (es[i]'(by omega)):=List.getElem?_eq_getElem (by omega);obtain⟨K,L,N⟩:=h.2 i O _ A j;have J:=z.2 i _ _ j t;rw[I i _ _ j t]at q;cases q
  exact⟨K,L,zE N rfl J rfl⟩⟩

def bW (w:World)(a:Option Addr)(lb:Nat)(rs:List (Int×Edge)):Prop:=
 rs≠[]→a=some ⟨lb,0,none⟩∧∃j:Array Value,w.heap[lb]?=some (.cells j 55 (0,0))∧∀(i:Nat) (r:Int×Edge),rs[i]?=some r→j[i*3]?=some (Value.int .u8 r.1)∧j[i*3+1]?=some (Value.int .u8 r.2.tag)∧j[i*3+2]?=some (Value.int .u32 r.2.to)

theorem bW.a5 {G:Nat→Prop}{w w':World}{a:Option Addr}{lb:Nat}{rs:List (Int×Edge)}(h:bW w a lb rs)(E:ae G w w')(z:¬G lb):bW w' a lb rs:=fun A=>by
 obtain⟨s,q,j,t⟩:=h A;exact⟨s,q,(E.block lb (aN j) z).trans j,t⟩

theorem bW.U {w w':World}{a:Option Addr}{lb:Nat}{rs:List (Int×Edge)}(h:bW w a lb rs)(j:aa w w'):bW w' a lb rs:=h.a5 (j.av (fun _=>False)) (fun h=>h)

theorem bW.cell {w:World}{a:Option Addr}{lb:Nat}{rs:List (Int×Edge)}(h:bW w a lb rs){i:Nat}{r:Int×Edge}(q:rs[i]?=some r) :
  a=some ⟨lb,0,none⟩∧w.cell? ⟨lb,i*3,none⟩=some (.int .u8 r.1)∧w.cell? ⟨lb,i*3+1,none⟩=some (.int .u8 r.2.tag)∧w.cell? ⟨lb,i*3+2,none⟩=some (.int .u32 r.2.to):=by
 obtain⟨A,I,j,E⟩:=h (fun e=>by rw[e]at q;cases q)
 obtain⟨s,t,z⟩:=E i r q
 exact⟨A,by rw[cell_of_row w lb _ _ _ _ j];simp only[s],by rw[cell_of_row w lb _ _ _ _ j];simp only[t],by rw[cell_of_row w lb _ _ _ _ j];simp only[z]⟩

theorem bW.frozen {w:World}{a:Option Addr}{lb:Nat}{rs:List (Int×Edge)}(h:bW w a lb rs){s:Nat}{r:Int×Edge}(j:rs[s]?=some r)(i:Nat):w.frozen? ⟨lb,i,none⟩=false:=by
 obtain⟨t,s,q,z⟩:=h (fun e=>by rw[e]at j;cases j);exact frozen_of_row w lb i _ _ q

theorem bW.roots {w:World}{a:Option Addr}{lb:Nat}{rs:List (Int×Edge)}(h:bW w a lb rs)(I:∀r∈rs,(0≤r.1∧r.1≤255)∧r.2.ok):dz w a rs:=fun i r j=>by
 obtain⟨E,q,s,t⟩:=h.cell j;obtain⟨z,A⟩:=I r (List.mem_of_getElem? j);exact⟨z,A,lb,0,E,by rw[Nat.zero_add];exact q,by rw[Nat.zero_add];exact s,by rw[Nat.zero_add];exact t⟩

theorem bW.set {w:World}{a:Option Addr}{lb:Nat}{rs:List (Int×Edge)}(h:bW w a lb rs){i:Nat}{r:Int×Edge}(q:rs[i]?=some r)(e:Edge):bW ((w.setCell ⟨lb,i*3+1,none⟩ (.int .u8 e.tag)).setCell ⟨lb,i*3+2,none⟩ (.int .u32 e.to)) a lb (rs.set i (r.1,e)):=fun _=>by
 have hi:=(List.getElem?_eq_some_iff.1 q).1;obtain⟨E,J,I,s⟩:=h (fun e=>by rw[e]at q;cases q);have J:=Go.heap_setCell_same w lb (i*3+1) _ _ (.int .u8 e.tag) I;refine⟨E,_,Go.heap_setCell_same _ lb (i*3+2) _ _ (.int .u32 e.to) J,fun z x j=>?_⟩;obtain⟨A,E,I⟩:=s i r q;have K:=(Array.getElem?_eq_some_iff.1 E).1;have L:=(Array.getElem?_eq_some_iff.1 I).1;by_cases t:i=z
 ·subst t;rw[List.getElem?_set_self hi]at j;cases j;refine⟨?_,?_,?_⟩
  ·rw[Array.getElem?_setIfInBounds,if_neg (by omega),Array.getElem?_setIfInBounds,if_neg (by omega)];exact A
  ·rw[Array.getElem?_setIfInBounds,if_neg (by omega),Array.getElem?_setIfInBounds,if_pos rfl,if_pos K]
  ·rw[Array.getElem?_setIfInBounds,if_pos rfl,if_pos (by simpa using L)]
 ·rw[List.getElem?_set_ne t]at j;obtain⟨q,t,A⟩:=s z x j;refine⟨?_,?_,?_⟩
  ·rw[Array.getElem?_setIfInBounds,if_neg (by omega),Array.getElem?_setIfInBounds,if_neg (by omega)];exact q
  ·rw[Array.getElem?_setIfInBounds,if_neg (by omega),Array.getElem?_setIfInBounds,if_neg (by omega)];exact t
  ·rw[Array.getElem?_setIfInBounds,if_neg (by omega),Array.getElem?_setIfInBounds,if_neg (by omega)];exact A

structure ej (w:World)(bb:Nat)(la:Option Addr)(N cap sb ob:Nat):Prop where
 c0:w.cell? ⟨bb,0,none⟩=some (.pointer (some ⟨sb,0,none⟩))
 c1:w.cell? ⟨bb,1,none⟩=some (.pointer (some ⟨ob,0,none⟩))
 c2:w.cell? ⟨bb,2,none⟩=some (.slice la N cap)
 c3:w.cell? ⟨bb,3,none⟩=some (.int .u8 0)

theorem ej.a5 {G:Nat→Prop}{w w':World}{s t cap E A:Nat}{z:Option Addr}(h:ej w s z t cap E A)(q:ae G w w')(j:¬G s):ej w' s z t cap E A:=
 ⟨q.cellAt j h.c0,q.cellAt j h.c1,q.cellAt j h.c2,q.cellAt j h.c3⟩

theorem ej.U {w w':World}{q j cap z t:Nat}{s:Option Addr}(h:ej w q s j cap z t)(A:aa w w'):ej w' q s j cap z t:=h.a5 (A.av (fun _=>False)) (fun h=>h)

structure fm (F Fo:Nat→Prop)(w:World)(bb lb:Nat)(la:Option Addr)(cap sb ob:Nat)(M:St)(ps:List Int)(fs:List (Int×List Bool))(rs:List (Int×Edge)):Prop where
 bp:eo F Fo w sb ob M ps
 perm:ar ps=true
 n6:ps.length≤6
 bx:fs.length≤4
 len:M.len=(ai fs ps:Int)
 room:(fs.length:Int)*300<M.room
 b0:M.room≤1000000
 ch:ct M ps fs rs
 row:bW w la lb rs
 cells:ej w bb la fs.length cap sb ob
 nb:¬F bb∧¬Fo bb∧bb≠lb
 nl:¬F lb∧¬Fo lb
 ew:bb<w.heap.size∧lb<w.heap.size

theorem fm.U {F Fo:Nat→Prop}{w w':World}{q lb cap z t:Nat}{s:Option Addr}{M:St}{ps:List Int}{fs:List (Int×List Bool)}{rs:List (Int×Edge)}(h:fm F Fo w q lb s cap z t M ps fs rs)(j:aa w w'):fm F Fo w' q lb s cap z t M ps fs rs:=
 ⟨h.bp.U j,h.perm,h.n6,h.bx,h.len,h.room,h.b0,h.ch,h.row.U j,h.cells.U j,h.nb,h.nl,by have:=j.size;have:=h.ew;omega⟩

def aL (F0 Fo q:Nat→Prop)(w0 w:World)(j lb:Nat)(s:Option Addr)(cap z t:Nat)(ps:List Int)(fs:List (Int×List Bool)):Prop:=
 ∃(F:Nat→Prop) (M:St) (rs:List (Int×Edge)),fm F Fo w j lb s cap z t M ps fs rs∧(∀j,F j→F0 j∨w0.heap.size≤j)∧ae (fun j=>F0 j∨Fo j∨j=lb∨q j) w0 w

theorem aL.U {F0 Fo j:Nat→Prop}{w0 w w':World}{q lb cap A z:Nat}{t:Option Addr}{ps:List Int}{fs:List (Int×List Bool)}(h:aL F0 Fo j w0 w q lb t cap A z ps fs)(s:aa w w'):aL F0 Fo j w0 w' q lb t cap A z ps fs:=by
 obtain⟨F,M,rs,j,q,t⟩:=h;exact⟨F,M,rs,j.U s,q,t.a' (s.av _)⟩

theorem aL.next {F0 F Fo X0 t:Nat→Prop}{w0 w w':World}{z lb cap J I:Nat}{E:Option Addr}{ps:List Int}{fs:List (Int×List Bool)}(hF:∀j,F j→F0 j∨w0.heap.size≤j)(A:ae (fun j=>F0 j∨Fo j∨j=lb∨X0 j) w0 w)(L:∀j,t j→X0 j∨w0.heap.size≤j)(h:aL F Fo t w w' z lb E cap J I ps fs):aL F0 Fo X0 w0 w' z lb E cap J I ps fs:=by
 obtain⟨F',M,rs,t,K,z⟩:=h;have E:=A.size;refine⟨F',M,rs,t,fun j N=>?_,A.b9 z (fun i hi s=>?_)⟩
 ·rcases K j N with q|q;·exact hF j q
  ·exact .inr (by omega)
 ·rcases s with s|s|s|s
  ·rcases hF i s with q|q;·exact .inl q
   ·omega
  ·exact .inr (.inl s)
  ·exact .inr (.inr (.inl s))
  ·rcases L i s with q|q;·exact .inr (.inr (.inr q))
   ·omega

theorem aL.fD {F0 Fo z:Nat→Prop}{w0 w w':World}{J lb cap S O:Nat}{N:Option Addr}{ps:List Int}{fs:List (Int×List Bool)}(h:aL F0 Fo z w0 w J lb N cap S O ps fs)(t:ae z w w')(I:∀s,z s→s<w0.heap.size∧¬F0 s∧¬Fo s∧s≠J∧s≠lb):aL F0 Fo z w0 w' J lb N cap S O ps fs:=by
 obtain⟨F,M,rs,j,L,T⟩:=h
 have W:∀s,z s→¬F s:=fun s K U=>by
  obtain⟨E,A,-⟩:=I s K;rcases L s U with q|q;·exact A q
  ·omega
 have s:=t.size;have s:=j.ew;refine⟨F,M,rs,⟨⟨j.bp.a4.a5 t (fun k E A=>W k A E),j.bp.b7.a5 t (fun k E A=>(I k A).2.2.1 E),j.bp.c',j.bp.n,j.bp.room⟩,j.perm,j.n6,j.bx,j.len,j.room,j.b0,j.ch,j.row.a5 t (fun g=>(I _ g).2.2.2.2 rfl),j.cells.a5 t (fun g=>(I _ g).2.2.2.1 rfl),j.nb,j.nl,by omega⟩,L,T.a' (t.mono (fun _ _ K=>.inr (.inr (.inr K))))⟩

theorem aL.en {F0 Fo z:Nat→Prop}{w0 w:World}{j lb cap t s:Nat}{q:Option Addr}{ps:List Int}{fs:List (Int×List Bool)}(h:aL F0 Fo z w0 w j lb q cap t s ps fs):(ps.length≤6∧ar ps=true∧fs.length≤4)∧ej w j q fs.length cap t s∧j<w.heap.size:=by
 obtain⟨F,M,rs,j,-⟩:=h;exact⟨⟨j.n6,j.perm,j.bx⟩,j.cells,j.ew.1⟩

theorem aL.start {F Fo:Nat→Prop}{w:World}{j lb cap t s:Nat}{q:Option Addr}{M:St}{ps:List Int}{fs:List (Int×List Bool)}{rs:List (Int×Edge)}(h:fm F Fo w j lb q cap t s M ps fs rs)(z:Nat→Prop):aL F Fo z w w j lb q cap t s ps fs:=
 ⟨F,M,rs,h,fun _ j=>.inl j,ae.refl _ _⟩

theorem ke {w:World}{U cap j:Nat}{aw:Option Addr}{rs:List (Int×Edge)}(W:w.cell? ⟨U,2,none⟩=some (.slice aw j cap))(Y:dz w aw rs)(X:rs.length=j)(bt:j≤1048576) :
  Calls Tryz.prog 53 #[.pointer (some ⟨U,0,none⟩)] w fun e w'=>∃g,e=.returned (.slice (some ⟨g,0,none⟩) j j)∧w.heap.size≤g∧bJ w' g (rs.map Prod.snd)∧aa w w':=by
 obtain⟨bg,ad,bi,bn,bp⟩:=info_parts pG
 have a3:=Lib.hid Y
 have I:=Lib.hid X
 clear Y X
 go_enter Tryz.func53,Tryz.ntmps53
 go_wp2_with (first
  |(at_make;refine wpList_make_full _ rfl _ _ 34 rfl w.heap.size 52 bg (.agg #[.int .u8 0,.int .u32 0]) 2 Tryz.underlying34 ad bi bn .i64 .i64 (j:Int) (j:Int) j rfl rfl rfl rfl (by rw[bp];omega) (by unfold maxLen;omega) (by simp) ?_;intro a1 am s;have K:aa w a1:=⟨s.os,s.tape,s.output,s.size,fun i hi=>s.block i hi (by simp)⟩;have W:=K.cell W)
  |fail)
 have J:=qO am
 have a2:=Lib.hid K
 have O:=Lib.hid J
 have bq:=J.lt
 obtain⟨g,ab⟩:∃g,g=w.heap.size:=⟨_,rfl⟩
 have bs:w.heap.size≤g:=by omega
 rw[←ab]at O bq ⊢
 clear am s K J ab
 go_loopg [17] j (fun gk s wr=>∃(d:Nat) (es:List Edge),s=.int .i64 (d:Int)∧d+gk=j∧es.length=j∧bJ wr g es∧(∀i,i<d→∀r,rs[i]?=some r→es[i]?=some r.2)∧ae (fun t=>t=g) a1 wr)
 case atStart=>exact⟨0,_,rfl,by omega,by simp,O.out,fun i hi=>by omega,ae.refl _ _⟩
 case round=>
  obtain⟨d,es,rfl,U,O,s,K,J⟩:=hrel;have q:=Lib.hid O;have z:=Lib.hid s;have E:=Lib.hid K;have a4:=Lib.hid J;have U:aa w wr:=a2.out.new J (fun t ad=>by omega);have S:=Lib.hid U;have W:=s.lt;clear O s K J U;by_cases A:d<j
  ·obtain⟨r,N⟩:∃b,rs[d]?=some b:=⟨_,List.getElem?_eq_getElem (by rw[I.out];exact A)⟩;obtain⟨bb,be,b,off,a',a6,a7,a8⟩:=(a3.out.U S.out) d r N;obtain⟨y,av⟩:∃b,es[d]?=some b:=⟨_,List.getElem?_eq_getElem (by rw[q.out];exact A)⟩;obtain⟨s,J⟩:=z.out.cell av;have s:=z.out.frozen (d*2);have s:=z.out.frozen (d*2+1);have a5:=Lib.hid N;have s:wr.heap.size≠g:=(by omega);have s:g≠wr.heap.size:=(by omega);obtain⟨f,e⟩:=r;dsimp only at a6 a7 a8;subst a';clear N av be bb;go_wp2_with fail
   go_roundg (gk-1)
   case rel=>
    refine⟨d+1,es.set d e,by simp,by omega,by rw[List.length_set,q.out],?_,fun i hi br L=>?_,?_⟩;·exact(z.out.set d e (by rw[q.out];exact A)).U ((aa.refl _).alloc _)
    ·by_cases hid:i=d
     ·subst hid;rw[a5.out]at L;cases L;rw[List.getElem?_set_self (by rw[q.out];exact A)]
     ·rw[List.getElem?_set_ne (fun e=>hid e.symm)];exact E.out i (by omega) br L
    ·exact(cI (P:=fun t=>t=g) rfl (cI (P:=fun t=>t=g) rfl a4.out _ _) _ _).alloc _
   case measure=>omega
  ·have s:d=j:=by omega
   have Z:es=rs.map Prod.snd:=by
    apply List.ext_getElem?;intro i;by_cases hi:i<j
    ·have j:rs[i]?=some (rs[i]'(by rw[I.out];exact hi)):=List.getElem?_eq_getElem _;rw[E.out i (by omega) _ j,List.getElem?_map,j];rfl
    ·rw[List.getElem?_eq_none (by rw[q.out];omega),List.getElem?_eq_none (by rw[List.length_map,I.out];omega)]
   have j:bJ wr g (rs.map Prod.snd)∧aa w wr:=⟨by rw[←Z];exact z.out,S.out⟩;have T:=Lib.hid j;clear Z j E q;go_wp2_with fail
   go_ret
   exact⟨g,rfl,bs,T.out.1,T.out.2⟩

def j8 (rs j:List (Int×Edge))(es:List Edge):Prop:=j.length=rs.length∧∀(i:Nat) (r:Int×Edge) (e:Edge),rs[i]?=some r→es[i]?=some e→j[i]?=some (r.1,e)

theorem j8.snd {rs j:List (Int×Edge)}{es:List Edge}(h:j8 rs j es)(q:es.length=rs.length):j.map Prod.snd=es:=by
 apply List.ext_getElem?;intro i;by_cases hi:i<rs.length
 ·have q:rs[i]?=some (rs[i]'hi):=List.getElem?_eq_getElem _;have j:es[i]?=some (es[i]'(by omega)):=List.getElem?_eq_getElem _;rw[List.getElem?_map,h.2 i _ _ q j,j];rfl
 ·rw[List.getElem?_eq_none (by rw[List.length_map,h.1];omega),List.getElem?_eq_none (by omega)]

theorem tk {F:Nat→Prop}{w:World}{I lb cap av b2 s g:Nat}{U:Option Addr}{M:St}{rs:List (Int×Edge)}{es:List Edge}(S:ej w I U s cap av b2)(bg:bW w U lb rs)(ad:bJ w g es)(a7:rs.length=s)(a6:es.length=s)(bw:s≤1048576)
  (bb:∀e∈es,e.ok) (h:ag F w av M) (bn:g≠lb) (bp:I≠lb) (b4:¬F g) (bq:¬F lb) (b5:¬F I) (b3:lb<w.heap.size) :
  Calls Tryz.prog 170 #[.pointer (some ⟨I,0,none⟩),.slice (some ⟨g,0,none⟩) s s] w fun e w'=>∃(F':Nat→Prop) (t:List (Int×Edge)),e=.returned (.tuple #[])∧j8 rs t es∧bW w' U lb t∧ag F' w' av (cM M (es.map Edge.to))∧(∀j,F' j→F j∨w.heap.size≤j)∧ae (fun j=>F j∨j=lb) w w':=by
 have av:=aD S.c0
 have a3:=Lib.hid h
 have K:=Lib.hid a7
 have X:=Lib.hid a6
 have aw:=Lib.hid bb
 have W:=Lib.hid S
 have a2:=Lib.hid bg
 have Z:=Lib.hid ad
 have av:=S.c2
 have av:=ad.lt
 clear h a7 a6 bb S bg ad
 go_enter Tryz.func170,Tryz.ntmps170
 go_wp2_with fail
 go_loopg [8] s (fun gk S wr=>∃(d:Nat) (t:List (Int×Edge)),S=.int .i64 (d:Int)∧d+gk=s∧t.length=s∧bW wr U lb t∧(∀(i:Nat) (r:Int×Edge) (e:Edge),rs[i]?=some r→es[i]?=some e→t[i]?=some (r.1,if i<d then e else r.2))∧ae (fun j=>j=lb) w wr)
 case atStart=>exact⟨0,rs,rfl,by omega,K.out,a2.out,fun i r e z A=>by rw[if_neg (by omega)];exact z,ae.refl _ _⟩
 case round=>
  obtain⟨d,t,rfl,a6,av,U,ad,S⟩:=hrel;have J:=Lib.hid av;have L:=Lib.hid U;have O:=Lib.hid ad;have E:=Lib.hid S;have a6:=S.size;clear av U ad S;by_cases T:d<s
  ·obtain⟨r,N⟩:∃b,t[d]?=some b:=⟨_,List.getElem?_eq_getElem (by rw[J.out];exact T)⟩;obtain⟨e,am⟩:∃b,es[d]?=some b:=⟨_,List.getElem?_eq_getElem (by rw[X.out];exact T)⟩;obtain⟨q,be⟩:∃b,rs[d]?=some b:=⟨_,List.getElem?_eq_getElem (by rw[K.out];exact T)⟩;obtain⟨bx,S,U,ad⟩:=L.out.cell N;have S:=L.out.frozen N (d*3+1);have S:=L.out.frozen N (d*3+2);obtain⟨S,U⟩:=(Z.out.a5 E.out bn).cell am;have S:=(W.out.a5 E.out bp).c2;have S:g<wr.heap.size:=(by omega);have S:lb<wr.heap.size:=(by omega);have S:I<wr.heap.size:=(by omega);have S:wr.heap.size≠g:=(by omega);have S:wr.heap.size≠lb:=(by omega);have S:wr.heap.size≠I:=(by omega);have a4:=Lib.hid N;have a5:=Lib.hid am;have a1:=Lib.hid be;subst bx;clear N am be;go_wp2_with fail
   go_region
   go_wp2_with fail
   go_roundg (gk-1)
   case rel=>
    have b1:r.1=q.1:=by
     have:=O.out d q e a1.out a5.out;rw[a4.out]at this;cases this;rfl
    refine⟨d+1,t.set d (r.1,e),by simp,by omega,by rw[List.length_set,J.out],?_,fun i p x z A=>?_,?_⟩;·exact(L.out.set a4.out e).U (((aa.refl _).alloc _).drew)
    ·by_cases hid:i=d
     ·subst hid;rw[a1.out]at z;rw[a5.out]at A;cases z;cases A;rw[List.getElem?_set_self (by rw[J.out];exact T),if_pos (by omega),b1]
     ·rw[List.getElem?_set_ne (fun e=>hid e.symm),O.out i p x z A];by_cases I:i<d;·rw[if_pos I,if_pos (by omega)]
      ·rw[if_neg I,if_neg (by omega)]
    ·exact((cI (P:=fun j=>j=lb) rfl (cI (P:=fun j=>j=lb) rfl E.out _ _) _ _).alloc _).drew
   case measure=>omega
  ·have ad:d=s:=by omega
   have T:j8 rs t es:=⟨by rw[J.out,K.out],fun i r e z A=>by
    have:=O.out i r e z A;rw[if_pos (by have:=(List.getElem?_eq_some_iff.1 z).1;rw[K.out]at this;omega)]at this
    exact this⟩
   have N:=a3.out.a5 E.out (fun k z A=>bq (A ▸ z));have I:=Z.out.a5 E.out bn;have S:∀z,aa wr z→fO z (some ⟨g,0,none⟩) s es:=fun z A=>⟨X.out,fun i e U=>((I.U A).at aw.out) i e U⟩;have U:=fun(z:World) (A:aa wr z)=>rz (N.U A) (some ⟨g,0,none⟩) s s es (S z A) bw;have s:=(W.out.a5 E.out bp).c0;have bv:=Lib.hid U;have bs:=Lib.hid T;have s:lb<wr.heap.size:=(by omega);clear U T S N I ad O X K aw Z W a3 a2 J;go_wp2_with fail
   refine(bv.out _ (by(exact kp))).mono ?_;rintro e br ⟨rfl,ab,a8⟩;have a':ae (fun j=>F j∨j=lb) w br:=(E.out.mono (fun k _ s=>.inr s)).a' (ab.mono (fun k _ s=>.inl s));have Y:=Lib.hid (⟨L.out.a5 ab bq,a8,a'⟩:_∧_∧_)
   have bi:∀j,au F wr br j→F j∨w.heap.size≤j:=fun j b0=>by
    rcases b0 with q|q;·exact .inl q
    ·exact .inr (by omega)
   have bt:=Lib.hid bi;clear ab a8 a' bi;go_wp2_with fail
   first|go_end0|refine bodyPost_ret (results_none rfl _ _ _) rfl ?_
   exact⟨_,t,rfl,bs.out,Y.out.1,Y.out.2.1,bt.out,Y.out.2.2⟩

end Go.Proofs.YtafkamlhimkbmaaGreat
