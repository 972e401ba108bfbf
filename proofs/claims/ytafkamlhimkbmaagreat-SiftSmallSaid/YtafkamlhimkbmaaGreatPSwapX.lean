/-
  swap: the map from edges of forms at levels to edges: its keys, what it holds.
-/
import Derived.Test.YtafkamlhimkbmaaGreatPConvW
import Derived.Test.YtafkamlhimkbmaaGreatPSwapP
namespace Go.Proofs.YtafkamlhimkbmaaGreat
set_option maxRecDepth 1000000
set_option maxHeartbeats 8000000
set_option linter.unusedSimpArgs false
set_option linter.unusedVariables false
open Go.RowKit

theorem zG:(309:TypeId)<Tryz.prog.types.size:=of_decide_eq_true (by kernel_rfl)

theorem CI:(match Tryz.prog.underlying 309 with|some (.array _ _)|some (.struct _)=>true|_=>false)=true:=by rw[Tryz.underlying309]

theorem mD:Go.Maps.Keyed Tryz.prog 309:=Go.Maps.Keyed.of_law (deep_law_laid xr (m:=3) (by omega) zG (by kernel_rfl) CI)

def iy (f:Int)(e:Edge)(l:Int):Value:=.agg #[.int .u8 f,.int .u8 e.tag,.int .u32 e.to,.int .i64 l]

noncomputable def dd (f:Int)(e:Edge)(l:Int):Lit:=.string (keyBytes [.int .u8 f,.int .u8 e.tag,.int .u32 e.to,.int .i64 l])

theorem kF (f:Int)(e:Edge)(l:Int)(X:1≤f∧f≤5)(j:e.ok)(U:0≤l)(W:l≤16):keyOf Tryz.prog 309 (iy f e l)=some (dd f e l):=by
 obtain⟨d,K⟩:=B3;have s:IntKind.u8.min=0:=rfl;have q:IntKind.u8.max=255:=rfl;have N:IntKind.u32.min=0:=rfl;have L:IntKind.u32.max=4294967295:=rfl;have w0:(Lit.int .u8 f).wf=true:=by simp only[Lit.wf,Bool.and_eq_true,decide_eq_true_eq,s,q];omega
 have w1:(Lit.int .u8 e.tag).wf=true:=by simp only[Lit.wf,Bool.and_eq_true,decide_eq_true_eq,s,q];exact j.1
 have S:(Lit.int .u32 e.to).wf=true:=by simp only[Lit.wf,Bool.and_eq_true,decide_eq_true_eq,N,L];exact j.2
 have T:(Lit.int .i64 l).wf=true:=WalkArith.wf_i64 (by omega);have O:Tryz.prog.keyType 309=true:=by kernel_rfl
 have t:Tryz.prog.cellsOf 309=4:=by kernel_rfl
 have z:Tryz.prog.cellsOf 52=2:=by kernel_rfl
 have A:Tryz.prog.cellsOf 3=1:=by kernel_rfl
 have E:Tryz.prog.cellsOf 5=1:=by kernel_rfl
 have I:Tryz.prog.cellsOf 50=1:=by kernel_rfl
 have J:Tryz.prog.cellsOf 53=1:=by kernel_rfl
 unfold keyOf iy dd;rw[Tryz.underlying309];simp only[O,K];simp[Value.formed,Value.cells,Tryz.underlying309,t,Program.keyLits,Tryz.underlying52,Tryz.underlying53,Tryz.underlying3,Tryz.underlying5,Tryz.underlying50,z,A,E,I,J,w0,w1,S,T]
 rw[if_pos (fun i hi=>by
  rcases i with _|_|i;·exact of_decide_eq_false rfl
  ·exact of_decide_eq_false rfl
  ·omega)]
 rfl

theorem rp {f q:Int}{e j:Edge}{l l':Int}(J:1≤f∧f≤5)(K:1≤q∧q≤5)(E:e.ok)(I:j.ok)(s:0≤l)(z:l≤16)(t:0≤l')(A:l'≤16)(h:dd f e l=dd q j l'):f=q∧e=j∧l=l':=by
 have L:=kF f e l J E s z;have s:=kF q j l' K I t A;rw[←h]at s;have:=mD.inj L s;unfold iy at this;cases e;cases j;simp at this;obtain⟨a,b,c,d⟩:=this;subst a b c d;exact⟨rfl,rfl,rfl⟩

theorem rq (f:Int)(e:Edge)(l:Int):WideAt.IsKeyLit (dd f e l):=True.intro

structure eV (lv:Int)(M:St)(V:List (Int×Edge×Int))(D:DataW Unit):Prop where
 isMap:Go.Maps.IsMap D
 b1:∀p∈V,(1≤p.1∧p.1≤5)∧p.2.1.ok∧0≤p.2.2∧p.2.2≤16∧M.leads p.1 p.2.1 p.2.2=true
 gf:∀f e l,1≤f∧f≤5→e.ok→0≤l→l≤16→(Go.Maps.has D (dd f e l)=true↔(f,e,l)∈V)
 c6:∀p∈V,∃x,D.atKey (dd p.1 p.2.1 p.2.2) (dJ ⟨0,0⟩)=dJ x∧eU lv p.1 M p.2.1 p.2.2 x

theorem eV.empty (lv:Int)(M:St):eV lv M [] (.map []):=by
 refine⟨Go.Maps.isMap_empty,fun p h=>by simp at h,fun f e l _ _ _ _=>?_,fun p h=>by simp at h⟩;simp[Go.Maps.has_eq]

theorem eV.ext {lv:Int}{M M':St}{V:List (Int×Edge×Int)}{D:DataW Unit}(h:eV lv M V D)(q:az M M')(s:M.wf):eV lv M' V D:=
 ⟨h.isMap,fun p j=>by obtain⟨a,b,c,d,e⟩:=h.b1 p j;exact⟨a,b,c,d,q.leads e⟩,h.gf,fun p j=>by
  obtain⟨x,a,b⟩:=h.c6 p j
  exact⟨x,a,b.ext q s (h.b1 p j).2.2.2.2⟩⟩

theorem eV.put {lv f:Int}{M:St}{V:List (Int×Edge×Int)}{D:DataW Unit}(h:eV lv M V D){e x:Edge}{l:Int}(A:1≤f∧f≤5)(z:e.ok)(s:0≤l)(t:l≤16)(S:M.leads f e l=true)(hp:(f,e,l)∉V)(T:eU lv f M e l x) :
  eV lv M (V++[(f,e,l)]) (D.put (dd f e l) (dJ x)):=by
 refine⟨h.isMap.put _ _,fun p hp=>?_,fun I E l' N L J K=>?_,fun p j=>?_⟩
 ·rcases List.mem_append.1 hp with hp|hp;·exact h.b1 p hp
  ·rw[List.mem_singleton]at hp;subst hp;exact⟨A,z,s,t,S⟩
 ·by_cases q:dd I E l'=dd f e l
  ·obtain⟨rfl,rfl,rfl⟩:=rp N A L z J K s t q;rw[Go.Maps.has_put_same h.isMap (rq _ _ _)];simp
  ·rw[Go.Maps.has_put_other q,h.gf I E l' N L J K,List.mem_append,List.mem_singleton];constructor;·exact .inl
   ·rintro(a|a);·exact a
    ·cases a;exact absurd rfl q
 ·rcases List.mem_append.1 j with j|j
  ·obtain⟨U,a,b,c,d⟩:=h.b1 p j
   have q:dd p.1 p.2.1 p.2.2≠dd f e l:=fun O=>by
    obtain⟨E,I,J⟩:=rp U A a z b c s t O;exact hp (by rw[←E,←I,←J];exact j)
   obtain⟨y,s,t⟩:=h.c6 p j;exact⟨y,by rw[Go.Maps.atKey_put_other q];exact s,t⟩
  ·rw[List.mem_singleton]at j;subst j;exact⟨x,Go.Maps.atKey_put_same h.isMap (rq _ _ _) _ _,T⟩

theorem eV.none {lv f:Int}{M:St}{V:List (Int×Edge×Int)}{D:DataW Unit}(h:eV lv M V D){e:Edge}{l:Int}(A:1≤f∧f≤5)(z:e.ok)(q:0≤l)(s:l≤16)(E:(f,e,l)∉V):Go.Maps.has D (dd f e l)=false∧D.atKey (dd f e l) (dJ ⟨0,0⟩)=dJ ⟨0,0⟩:=by
 have j:Go.Maps.has D (dd f e l)=false:=by
  cases t:Go.Maps.has D (dd f e l)with
  |false=>rfl
  |true=>exact absurd ((h.gf f e l A z q s).1 t) E
 exact⟨j,Go.Maps.atKey_of_not_has j _⟩

structure bE (F:Nat→Prop)(W:World)(sb wb b:Nat)(lv:Int)(M:St)(V:List (Int×Edge×Int))(D:DataW Unit):Prop where
 a4:ag F W sb M
 c0:W.cell? ⟨wb,0,none⟩=some (.pointer (some ⟨sb,0,none⟩))
 c1:W.cell? ⟨wb,1,none⟩=some (.int .i64 lv)
 c2:W.cell? ⟨wb,2,none⟩=some (.map (some b))
 nF:¬F b
 nW:¬F wb
 own:W.ownsMap Tryz.prog 309 gL b V.length D
 dr:eV lv M V D

theorem bE.block {F:Nat→Prop}{j:World}{sb wb b:Nat}{lv:Int}{M:St}{V:List (Int×Edge×Int)}{D:DataW Unit}(h:bE F j sb wb b lv M V D):∃es clock,j.heap[b]?=some (.map es clock):=by
 obtain⟨es,clock,j,_⟩:=h.own;exact⟨es,clock,j⟩

theorem bE.cS {F:Nat→Prop}{j:World}{sb wb b:Nat}{lv:Int}{M:St}{V:List (Int×Edge×Int)}{D:DataW Unit}(h:bE F j sb wb b lv M V D){k o:Nat}{v:Value}(s:j.cell? ⟨k,o,none⟩=some v):k≠b:=by
 obtain⟨es,clock,q⟩:=h.block;intro e;subst e;simp[World.cell?,q]at s

theorem bE.lt {F:Nat→Prop}{j:World}{sb wb b:Nat}{lv:Int}{M:St}{V:List (Int×Edge×Int)}{D:DataW Unit}(h:bE F j sb wb b lv M V D):b<j.heap.size∧wb<j.heap.size:=by
 obtain⟨es,clock,j⟩:=h.block;exact⟨(Array.getElem?_eq_some_iff.1 j).1,aD h.c0⟩

theorem ir {j W':World}{b n:Nat}{D:DataW Unit}(h:j.ownsMap Tryz.prog 309 gL b n D)(q:W'.heap[b]?=j.heap[b]?):W'.ownsMap Tryz.prog 309 gL b n D:=by
 obtain⟨es,clock,j,r⟩:=h;exact⟨es,clock,by rw[q];exact j,r⟩

theorem bE.U {F:Nat→Prop}{q W':World}{sb wb b:Nat}{lv:Int}{M:St}{V:List (Int×Edge×Int)}{D:DataW Unit}(h:bE F q sb wb b lv M V D)(j:aa q W'):bE F W' sb wb b lv M V D:=
 ⟨h.a4.U j,j.cell h.c0,j.cell h.c1,j.cell h.c2,h.nF,h.nW,ir h.own (j.block b h.lt.1),h.dr⟩

theorem bE.store {F F':Nat→Prop}{s W':World}{sb wb b:Nat}{lv:Int}{M M':St}{V:List (Int×Edge×Int)}{D:DataW Unit}(h:bE F s sb wb b lv M V D)(j:ae F s W')(E:ag F' W' sb M')(hF:∀z,F' z→F z∨s.heap.size≤z)(A:az M M'):bE F' W' sb wb b lv M' V D:=by
 obtain⟨I,s⟩:=h.lt;have J:¬F' b:=fun t=>by rcases hF _ t with q|q;exact h.nF q;omega
 have K:¬F' wb:=fun t=>by rcases hF _ t with q|q;exact h.nW q;omega
 exact⟨E,j.cellAt h.nW h.c0,j.cellAt h.nW h.c1,j.cellAt h.nW h.c2,J,K,ir h.own (j.block b I h.nF),h.dr.ext A h.a4.wf⟩

theorem bE.e9 {F:Nat→Prop}{q:World}{sb wb b:Nat}{lv f:Int}{M:St}{V:List (Int×Edge×Int)}{D:DataW Unit}(h:bE F q sb wb b lv M V D){e:Edge}{l:Int}(A:1≤f∧f≤5)(z:e.ok)(s:0≤l)(t:l≤16) :
  ∃x,D.atKey (dd f e l) (dJ ⟨0,0⟩)=dJ x∧∀W',W'.heap[b]?=q.heap[b]?→(Instr.lookup 304 (.map (some b)) (iy f e l) true).run Tryz.prog W'=.ok (.tuple #[.agg #[.int .u8 x.tag,.int .u32 x.to],.bool (Go.Maps.has D (dd f e l))]) W':=by
 have j:∃x,D.atKey (dd f e l) (dJ ⟨0,0⟩)=dJ x:=by
  by_cases E:(f,e,l)∈V
  ·obtain⟨x,a,_⟩:=h.dr.c6 _ E;exact⟨x,a⟩
  ·exact⟨_,(h.dr.none A z s t E).2⟩
 obtain⟨x,j⟩:=j
 refine⟨x,j,fun W' I=>?_⟩
 obtain⟨v,ps,E,q⟩:=(ir h.own I).look_ok mD Tryz.underlying304 (CT W') (pb ⟨0,0⟩) (kF f e l A z s t)
 rw[j]at q
 rw[E,uX q]

theorem bE.put {F:Nat→Prop}{q W':World}{sb wb b:Nat}{lv f:Int}{M:St}{V:List (Int×Edge×Int)}{D:DataW Unit}(h:bE F q sb wb b lv M V D){e x:Edge}{l:Int}(j:ae (fun k=>k=b) q W')(J:W'.ownsMap Tryz.prog 309 gL b (V.length+1) (D.put (dd f e l) (dJ x)))
  (A:1≤f∧f≤5) (z:e.ok) (s:0≤l) (t:l≤16) (I:M.leads f e l=true) (K:(f,e,l)∉V) (L:eU lv f M e l x):bE F W' sb wb b lv M (V++[(f,e,l)]) (D.put (dd f e l) (dJ x)):=by
 refine⟨h.a4.a5 j (fun k E e=>by subst e;exact h.nF E),j.cellAt (h.cS h.c0) h.c0,j.cellAt (h.cS h.c0) h.c1,j.cellAt (h.cS h.c0) h.c2,h.nF,h.nW,?_,h.dr.put A z s t I K L⟩
 rw[List.length_append]
 exact J

def gG (F:Nat→Prop)(w:World)(sb wb b:Nat)(lv f:Int)(M:St)(V:List (Int×Edge×Int))(e:Edge)(l:Int)(r:Ending)(w':World):Prop:=
 ∃(M':St) (x:Edge) (q:Int) (F':Nat→Prop),r=.returned (.tuple #[.agg #[.int .u8 x.tag,.int .u32 x.to],.int .u8 q])∧ey lv f M e l M' x q (dh lv l)∧x.ok∧(q=0∨q=6) ∧
  ae (fun j=>F j∨j=b) w w'∧(∀j,F' j→F j∨w.heap.size≤j)∧ag F' w' sb M' ∧
  (q=0→∃j q,bE F' w' sb wb b lv M' j q∧j.length+1≤V.length+2 ^ ((lv-l).toNat+1)∧∀q∈j,q∈V∨l≤q.2.2)

section
variable {F:Nat→Prop}{w:World}{sb wb b:Nat}{lv f:Int}{M:St}{V:List (Int×Edge×Int)}{D:DataW Unit}

theorem sW (h:bE F w sb wb b lv M V D){e x:Edge}{l:Int}(q:eU lv f M e l x){w':World}(j:aa w w') :
  gG F w sb wb b lv f M V e l (.returned (.tuple #[.agg #[.int .u8 x.tag,.int .u32 x.to],.int .u8 0])) w':=
 ⟨M,x,0,F,rfl,⟨(bU.refl h.a4.wf).le (by have:=me (lv:=lv) (l:=l);omega),fun _=>q,fun s=>absurd rfl s⟩,q.ok,.inl rfl,aa.av j _,fun z t=>.inl t,h.a4.U j,fun _=>⟨V,D,h.U j,Nat.add_le_add_left (Nat.pow_pos (by decide)) _,fun s q=>.inl q⟩⟩

theorem lV {e:Edge}{l:Int}{t:St}{q:Nat→Prop}{z w':World}{R:Nat}(J:ey lv f M e l t ⟨0,0⟩ 6 (dh lv l))(L:ae (fun j=>F j∨j=b) w z)(E:∀j,q j→F j∨w.heap.size≤j)(hS:ag q z sb t)
  (A:ae (fun j=>j=R) z w') (I:¬q R) (N:w.heap.size≤R):gG F w sb wb b lv f M V e l (.returned (.tuple #[.agg #[.int .u8 (⟨0,0⟩:Edge).tag,.int .u32 (⟨0,0⟩:Edge).to],.int .u8 6])) w':=
 ⟨t,_,6,q,rfl,J,dQ,.inr rfl,L.b9 A (fun i hi s=>by omega),E,hS.a5 A (fun k K s=>by subst s;exact I K),fun s=>by cases s⟩

theorem sT {e x:Edge}{l:Int}{E:St}{A:List (Int×Edge×Int)}{L:DataW Unit}{z:Nat→Prop}{K w':World}{R:Nat}(X:ey lv f M e l E x 0 (dh lv l))(Z:x.ok)(Y:ae (fun s=>F s∨s=b) w K)(S:∀s,z s→F s∨w.heap.size≤s)(q:bE z K sb wb b lv E A L)
  (U:A.length+1≤V.length+2 ^ ((lv-l).toNat+1)) (T:∀O∈A,O∈V∨l≤O.2.2)
  (t:ae (fun s=>s=R) K w') (N:¬z R) (ab:w.heap.size≤R) (W:R≠b) (J:R≠wb):gG F w sb wb b lv f M V e l (.returned (.tuple #[.agg #[.int .u8 x.tag,.int .u32 x.to],.int .u8 0])) w':=
 ⟨E,_,0,z,rfl,X,Z,.inl rfl,Y.b9 t (fun i hi j=>by omega),S,q.a4.a5 t (fun k I j=>by subst j;exact N I),fun _=>⟨A,L,
  ⟨q.a4.a5 t (fun k I j=>by subst j;exact N I),t.cellAt (fun j=>J j.symm) q.c0,t.cellAt (fun j=>J j.symm) q.c1,t.cellAt (fun j=>J j.symm) q.c2,q.nF,q.nW,ir q.own (t.block b q.lt.1 (fun j=>W j.symm)),q.dr⟩,U,T⟩⟩

end

structure Pg (F:Nat→Prop)(w W:World)(sb:Nat)(F1:Nat→Prop)(M:St):Prop where
 av:ae F w W
 a4:ag F1 W sb M
 sub:∀j,F1 j→F j∨w.heap.size≤j

theorem Pg.box {F s t:Nat→Prop}{w z E:World}{sb:Nat}{M M':St}{B C:Nat}{lo hi:Edge}(h:Pg F w z sb s M)(j:fN s z E sb M' B C lo hi t):Pg F w E sb t M':=by
 have s:=h.av.size;refine⟨h.av.b9 j.av (fun i hi I=>?_),j.a4,fun A J=>?_⟩
 ·rcases h.sub i I with q|q;·exact q
  ·omega
 ·rcases j.sub A J with q|q;·exact h.sub A q
  ·exact .inr (by omega)

theorem fN.no {F j:Nat→Prop}{w0 A:World}{sb:Nat}{s:St}{B C:Nat}{lo hi:Edge}(h:fN F w0 A sb s B C lo hi j){k:Nat}(z:¬F k)(E:k<w0.heap.size):¬j k:=fun t=>by
 rcases h.sub k t with q|q;·exact z q
 ·omega

theorem cI {P:Nat→Prop}{R:Nat}(j:P R){x y:World}(h:ae P x y)(o:Nat)(v:Value):ae P x (y.setCell ⟨R,o,none⟩ v):=h.setCell (Or.inl j) v

def so (lv f:Int)(q:St)(lo hi:Edge)(z:St)(x y:Edge):Prop:=
 ∃(j s t:St) (a b c d:Edge),bT q (af q f lo (lv+1))=0∧j=bQ q (af q f lo (lv+1))∧a=bN q (af q f lo (lv+1))∧b=bk q f (af q f lo (lv+1)) ∧
  bT j (af j f hi (lv+1))=0∧s=bQ j (af j f hi (lv+1))∧c=bN j (af j f hi (lv+1))∧d=bk j f (af j f hi (lv+1)) ∧
  bX s (ak f s (lv+1) a c)=0∧t=aR s (ak f s (lv+1) a c)∧x=aH f s (ak f s (lv+1) a c) ∧
  bX t (ak f t (lv+1) b d)=0∧z=aR t (ak f t (lv+1) b d)∧y=aH f t (ak f t (lv+1) b d)

def lK (F:Nat→Prop)(w:World)(sb:Nat)(lv f:Int)(M:St)(lo hi:Edge)(r:Ending)(w':World):Prop:=
 ∃(j:St) (x y:Edge) (q:Int) (F':Nat→Prop),r=.returned (.tuple #[.agg #[.int .u8 x.tag,.int .u32 x.to],.agg #[.int .u8 y.tag,.int .u32 y.to],.int .u8 q])∧x.ok∧y.ok∧(q=0∨q=6)∧Pg F w w' sb F' j∧bU M j 4∧(q=6→j.room≤j.len)∧(q=0→so lv f M lo hi j x y)

theorem Pg.out {F j:Nat→Prop}{w q w':World}{sb:Nat}{M:St}(h:Pg F w q sb j M)(z:ae (fun A=>A=w.heap.size+1+1∨A=w.heap.size+1+1+1) q w')(E:¬j (w.heap.size+1+1))(I:¬j (w.heap.size+1+1+1)):Pg F w w' sb j M:=
 ⟨h.av.b9 z (fun i hi s=>by omega),h.a4.a5 z (fun k t s=>by rcases s with rfl|rfl;exact E t;exact I t),h.sub⟩

theorem mg {F q:Nat→Prop}{w s w':World}{sb:Nat}{lv f:Int}{M j:St}{lo hi:Edge}(h:Pg F w s sb q j)(I:bU M j 4)(A:j.room≤j.len)(E:ae (fun t=>t=w.heap.size+1+1∨t=w.heap.size+1+1+1) s w')(J:¬q (w.heap.size+1+1))(K:¬q (w.heap.size+1+1+1)) :
  lK F w sb lv f M lo hi (.returned (.tuple #[.agg #[.int .u8 (⟨0,0⟩:Edge).tag,.int .u32 (⟨0,0⟩:Edge).to],.agg #[.int .u8 (⟨0,0⟩:Edge).tag,.int .u32 (⟨0,0⟩:Edge).to],.int .u8 6])) w':=
 ⟨j,_,_,6,q,rfl,dQ,dQ,.inr rfl,h.out E J K,I,fun _=>A,fun z=>by cases z⟩

theorem uG {F:Nat→Prop}{w:World}{sb wb:Nat}{lv f:Int}{M:St}(b1:ag F w sb M)(eb:w.cell? ⟨wb,0,none⟩=some (.pointer (some ⟨sb,0,none⟩)))(f3:w.cell? ⟨wb,1,none⟩=some (.int .i64 lv))(X:¬F wb)
  (f8:1≤f∧f≤5) (gh:M.room<1048576) (eg:0≤lv) (ga:lv+1<M.n) (lo hi:Edge) (f':lo.ok) (f9:hi.ok) (gr:M.leads f lo (lv+1)=true) (gp:M.leads f hi (lv+1)=true) :
  Calls Tryz.prog 265 #[.pointer (some ⟨wb,0,none⟩),.int .u8 f,.agg #[.int .u8 lo.tag,.int .u32 lo.to],.agg #[.int .u8 hi.tag,.int .u32 hi.to]] w (lK F w sb lv f M lo hi):=by
 have hb:=b1.wf.bw
 have hv:lv≤14:=by omega
 have hd:=aD eb
 dsimp only at hd
 have am:=Lib.hid b1
 have br:=Lib.hid f8
 have d9:=Lib.hid gr
 have g8:=Lib.hid gp
 have c7:=Lib.hid (⟨f',f9⟩:lo.ok∧hi.ok)
 have hd:=Lib.hid gh
 have bv:=Lib.hid ga
 clear b1 f8 gr gp f' f9 gh ga hb
 have b1:wb<w.heap.size+1:=by omega
 have b1:wb<w.heap.size+1+1:=by omega
 have b1:wb<w.heap.size+1+1+1:=by omega
 go_enter Tryz.func265,Tryz.ntmps265
 go_wp2_with fail
 obtain⟨L,T⟩:∃L,L=(((w.alloc (.cells #[.int .u8 lo.tag,.int .u32 lo.to] 52)).alloc (.cells #[.int .u8 hi.tag,.int .u32 hi.to] 52)).alloc (.cells #[.int .u8 0,.int .u32 0] 52)).alloc (.cells #[.int .u8 0,.int .u32 0] 52):=⟨_,rfl⟩
 have gx:L.cell? ⟨w.heap.size,0,none⟩=some (.int .u8 lo.tag):=by rw[T];simp[go_sem]
 have gB:L.cell? ⟨w.heap.size,1,none⟩=some (.int .u32 lo.to):=by rw[T];simp[go_sem]
 have dj:L.cell? ⟨(w.heap.size+1),0,none⟩=some (.int .u8 hi.tag):=by rw[T];simp[go_sem]
 have dk:L.cell? ⟨(w.heap.size+1),1,none⟩=some (.int .u32 hi.to):=by rw[T];simp[go_sem]
 have Y:L.cell? ⟨(w.heap.size+1+1),0,none⟩=some (.int .u8 0):=by rw[T];simp[go_sem]
 have Z:L.cell? ⟨(w.heap.size+1+1),1,none⟩=some (.int .u32 0):=by rw[T];simp[go_sem]
 have ab:L.cell? ⟨(w.heap.size+1+1+1),0,none⟩=some (.int .u8 0):=by rw[T];simp[go_sem]
 have ad:L.cell? ⟨(w.heap.size+1+1+1),1,none⟩=some (.int .u32 0):=by rw[T];simp[go_sem]
 have bi:∀o:Nat,L.frozen? ⟨w.heap.size+1+1,o,none⟩=false:=fun o=>by rw[T];simp[go_sem]
 have bn:∀o:Nat,L.frozen? ⟨w.heap.size+1+1+1,o,none⟩=false:=fun o=>by rw[T];simp[go_sem]
 have cq:aa w L:=by rw[T];exact((((aa.refl _).alloc _).alloc _).alloc _).alloc _
 have gC:L.heap.size=w.heap.size+4:=by rw[T];simp
 have bw:=cq.cell eb
 have ha:=cq.cell f3
 have e9:¬F w.heap.size:=fun b1=>by have:=am.out.lt _ b1;omega
 have b9:¬F (w.heap.size+1):=fun b1=>by have:=am.out.lt _ b1;omega
 have J:¬F (w.heap.size+1+1):=fun b1=>by have:=am.out.lt _ b1;omega
 have K:¬F (w.heap.size+1+1+1):=fun b1=>by have:=am.out.lt _ b1;omega
 have b1:Pg F w L sb F M:=⟨cq.av F,am.out.U cq,fun av f8=>.inl f8⟩
 have s:=Lib.hid b1
 have U:=Lib.hid (bU.refl am.out.wf)
 rw[←T]
 clear T eb f3 cq b1
 obtain⟨wc,gj⟩:∃wc,wc=L:=⟨_,rfl⟩
 rw[←gj]at gx gB dj dk Y Z ab ad bi bn gC bw ha s ⊢
 clear gj L
 obtain⟨dl,hn⟩:w.heap.size+4≤wc.heap.size∧wc.heap.size≤w.heap.size+4:=by omega
 clear gC
 have a3:=s.out.a4.lt
 have N:=Lib.hid a3
 have be:=fun(q:World) (O:aa wc q)=>l4 (s.out.a4.U O) f lo (lv+1) c7.out.1
 rw[mC br.out]at be
 obtain⟨W,ek⟩:∃t,t=bQ M (af M f lo (lv+1)):=⟨_,rfl⟩
 obtain⟨a,ep⟩:∃t,t=bN M (af M f lo (lv+1)):=⟨_,rfl⟩
 obtain⟨b,er⟩:∃t,t=bk M f (af M f lo (lv+1)):=⟨_,rfl⟩
 obtain⟨ec,ev⟩:∃t,t=bT M (af M f lo (lv+1)):=⟨_,rfl⟩
 rw[←ek,←ep,←er,←ev]at be
 have aw:=Lib.hid (fun(q:World) (O:aa wc q)=>gF N.out (Nat.le_refl _) (be q O))
 have c1:=Lib.hid ek
 have cg:=Lib.hid ev
 have d3:=Lib.hid ep
 have d6:=Lib.hid er
 clear be a3 ek ev ep er
 have e6:wc.heap.size≠wb:=by omega
 have hl:wc.heap.size+1≠wb:=by omega
 have S:wc.heap.size≠w.heap.size:=by omega
 have hm:wc.heap.size+1≠w.heap.size:=by omega
 go_cut [12,13,14] (fun L T ca cb=>∃a7 a8 d0,L=.pointer (some ⟨a7,0,none⟩)∧T=.pointer (some ⟨a8,0,none⟩)∧ca=.int .u8 ec∧fN F wc cb sb W a7 a8 a b d0)
 case first=>
  go_region_held3 (fun w'=>w'.cell? ⟨wb,0,none⟩=some (.pointer (some ⟨sb,0,none⟩))∧w'.cell? ⟨w.heap.size,0,none⟩=some (.int .u8 lo.tag)∧w'.cell? ⟨w.heap.size,1,none⟩=some (.int .u32 lo.to)) (go_keep) ((go_at_call 258;refine(aw.out _ (by(exact kp))).mono ?_;rintro c8 E ⟨⟨rfl,z,b0⟩,a2,e0,b2,b4,b5⟩;have a5:=z.size;(try simp only[World.size_alloc,World.a3,World.c5]at a5);have fj:=z.cellAt (b:=wb) (o:=0) (v:=.pointer (some ⟨sb,0,none⟩)) X (by go_keep);have fl:=z.cellAt (b:=w.heap.size) (o:=0) (v:=.int .u8 lo.tag) e9 (by go_keep);have fp:=z.cellAt (b:=w.heap.size) (o:=1) (v:=.int .u32 lo.to) e9 (by go_keep);have e':E.heap.size≠wb:=(by omega);have hp:E.heap.size+1≠wb:=(by omega);have fa:E.heap.size≠w.heap.size:=(by omega);have hq:E.heap.size+1≠w.heap.size:=(by omega)))
  all_goals(try go_wp2_with fail)
  all_goals go_meet
  all_goals refine⟨_,_,_,rfl,rfl,rfl,iK N.out (by(exact kp)) z b0 ?_ ?_ ?_ ?_ ?_ ?_ ?_⟩
  all_goals(try(simp[go_sem];done))
  all_goals(try(simp only[World.size_alloc,World.a3,World.size_setCell];omega))
  all_goals(try(repeat (first|with_reducible exact ae.refl _ _|with_reducible refine ae.alloc ?_ _|with_reducible refine ae.drew ?_|refine ae.setCell ?_ (Or.inl (Or.inl rfl)) _|refine ae.setCell ?_ (Or.inl (Or.inr rfl)) _)))
  all_goals(try(simp[go_sem,a2,b2,b4,b5];done))
  all_goals
   have ft:E.cell? ⟨wc.heap.size,0,none⟩=some (.int .u8 0):=(a2 _ _ (Nat.le_refl _) (by simp only[World.size_alloc,World.a3];omega)).trans ((World.cell?_alloc_lt _ _ _ (by simp)).trans (by simp[go_sem]))
   have fv:E.cell? ⟨wc.heap.size,1,none⟩=some (.int .u32 0):=(a2 _ _ (Nat.le_refl _) (by simp only[World.size_alloc,World.a3];omega)).trans ((World.cell?_alloc_lt _ _ _ (by simp)).trans (by simp[go_sem]))
   simp[go_sem,ft,fv]
 case rest=>
  obtain⟨a7,a8,d0,rfl,rfl,rfl,j⟩:=hcut;replace bw:=j.av.cellAt X bw;replace dj:=j.av.cellAt b9 dj;replace dk:=j.av.cellAt b9 dk;replace Y:=j.av.cellAt J Y;replace Z:=j.av.cellAt J Z;replace ab:=j.av.cellAt K ab;replace ad:=j.av.cellAt K ad;replace bi:=fun o:Nat=>j.av.frozen (a:=⟨(w.heap.size+1+1),o,none⟩) (by show(w.heap.size+1+1)<_;omega) J (bi o);replace bn:=fun o:Nat=>j.av.frozen (a:=⟨(w.heap.size+1+1+1),o,none⟩) (by show(w.heap.size+1+1+1)<_;omega) K (bn o);have a5:=j.av.size;have dr:=j.a0;have cf:=j.c0;have fb:=j.a1;have cD:=j.c1;have he:=aD dr;have hf:=aD cf;dsimp only at he hf;have b7:=j.nB;have a6:=j.nC;have L:=j.gB;have L:=j.gC;have L:w.heap.size+4≤a7:=by omega
  have L:w.heap.size+4≤a8:=by omega
  replace K:=j.no K (by omega);replace J:=j.no J (by omega);replace b9:=j.no b9 (by omega);replace X:=j.no X (by omega);have s:=Lib.hid (s.out.box j);replace dl:w.heap.size+4≤wc.heap.size:=by omega
  clear j aw N gx gB e9 hn;by_cases f5:ec=0
  case neg=>
   obtain⟨cv,cx,cy⟩:=lF am.out.wf d9.out bv.out (cg.out ▸ f5);obtain rfl:ec=6:=cg.out.trans cv;have a1:W=M:=c1.out.trans cx;have bs:=fun(w':World) (b6:ae (fun av=>av=w.heap.size+1+1∨av=w.heap.size+1+1+1) wc w')=>mg (lv:=lv) (f:=f) (M:=M) (lo:=lo) (hi:=hi) s.out (by rw[a1];exact U.out.le (by decide)) (by rw[a1];exact cy) b6 J K;have ci:=Lib.hid bs;clear bs;go_wp2_with fail
   refine bodyPost_ret (v:=.tuple #[.agg #[.int .u8 (⟨0,0⟩:Edge).tag,.int .u32 (⟨0,0⟩:Edge).to],.agg #[.int .u8 (⟨0,0⟩:Edge).tag,.int .u32 (⟨0,0⟩:Edge).to],.int .u8 6]) (by simp[results,Tryz.results265,go_sem,Y,Z,ab,ad]) rfl (ci.out _ ?_)
   (repeat (first|with_reducible exact ae.refl _ _|refine cI (Or.inl rfl) ?_ _ _|refine cI (Or.inr rfl) ?_ _ _|with_reducible refine ae.alloc ?_ _|with_reducible refine ae.drew ?_))
  case pos=>
   subst f5;have cp:=fL am.out.wf d9.out bv.out cg.out.symm;have e4:=iA am.out.wf d9.out bv.out cg.out.symm;obtain⟨T,b1⟩:=ov am.out.wf am.out.bx (fun id r L=>am.out.b1 L) (f:=f) c7.out.1 (by omega) bv.out;rw[←c1.out]at e4;rw[←c1.out,←d3.out,←d6.out]at cp;rw[←d3.out]at T;rw[←d6.out]at b1;have U:=Lib.hid ((U.out.trans e4).le (show(0:Int)+1≤1 by decide));have cl:=Lib.hid cp;have c5:=Lib.hid (⟨T,b1⟩:a.ok∧b.ok);have d8:=Lib.hid (cp.ext.leads g8.out);have cj:=Lib.hid (show lv+1<W.n by have:=cp.ext.n;have:=bv.out;omega);have c9:=ov s.out.a4.wf s.out.a4.bx (fun id r L=>s.out.a4.b1 L) (f:=f) (e:=hi) (l:=lv+1);have c9:=Lib.hid c9;clear cp e4 T b1;have a3:=s.out.a4.lt;have N:=Lib.hid a3;have be:=fun(q:World) (O:aa wc q)=>l4 (s.out.a4.U O) f hi (lv+1) c7.out.2;rw[mC br.out]at be;obtain⟨A,el⟩:∃t,t=bQ W (af W f hi (lv+1)):=⟨_,rfl⟩;obtain⟨c,et⟩:∃t,t=bN W (af W f hi (lv+1)):=⟨_,rfl⟩;obtain⟨d,eu⟩:∃t,t=bk W f (af W f hi (lv+1)):=⟨_,rfl⟩;obtain⟨ed,ew⟩:∃t,t=bT W (af W f hi (lv+1)):=⟨_,rfl⟩;rw[←el,←et,←eu,←ew]at be;have aw:=Lib.hid (fun(q:World) (O:aa wc q)=>gF N.out (Nat.le_refl _) (be q O));have c2:=Lib.hid el;have ch:=Lib.hid ew;have d5:=Lib.hid et;have d7:=Lib.hid eu;clear be a3 el ew et eu;have e6:wc.heap.size≠wb:=(by omega);have hl:wc.heap.size+1≠wb:=(by omega);have S:wc.heap.size≠(w.heap.size+1):=(by omega);have hm:wc.heap.size+1≠(w.heap.size+1):=(by omega);have ce:wc.heap.size≠w.heap.size:=(by omega);have L:wc.heap.size+1≠w.heap.size:=(by omega);go_wp2_with fail
   go_cut [15,16,14] (fun L T ca cb=>∃a' bb d1,L=.pointer (some ⟨a',0,none⟩)∧T=.pointer (some ⟨bb,0,none⟩)∧ca=.int .u8 ed∧fN d0 wc cb sb A a' bb c d d1)
   case first=>
    go_region_held3 (fun w'=>w'.cell? ⟨wb,0,none⟩=some (.pointer (some ⟨sb,0,none⟩))∧w'.cell? ⟨(w.heap.size+1),0,none⟩=some (.int .u8 hi.tag)∧w'.cell? ⟨(w.heap.size+1),1,none⟩=some (.int .u32 hi.to)) (go_keep) ((go_at_call 258;refine(aw.out _ (by(exact kp))).mono ?_;rintro c8 E ⟨⟨rfl,z,b0⟩,a2,e0,b2,b4,b5⟩;have a5:=z.size;(try simp only[World.size_alloc,World.a3,World.c5]at a5);have fj:=z.cellAt (b:=wb) (o:=0) (v:=.pointer (some ⟨sb,0,none⟩)) X (by go_keep);have fl:=z.cellAt (b:=(w.heap.size+1)) (o:=0) (v:=.int .u8 hi.tag) b9 (by go_keep);have fp:=z.cellAt (b:=(w.heap.size+1)) (o:=1) (v:=.int .u32 hi.to) b9 (by go_keep);have e':E.heap.size≠wb:=(by omega);have hp:E.heap.size+1≠wb:=(by omega);have fa:E.heap.size≠(w.heap.size+1):=(by omega);have hq:E.heap.size+1≠(w.heap.size+1):=(by omega);have g0:E.heap.size≠w.heap.size:=(by omega);have L:E.heap.size+1≠w.heap.size:=(by omega)))
    all_goals(try go_wp2_with fail)
    all_goals go_meet
    all_goals refine⟨_,_,_,rfl,rfl,rfl,iK N.out (by(exact kp)) z b0 ?_ ?_ ?_ ?_ ?_ ?_ ?_⟩
    all_goals(try(simp[go_sem];done))
    all_goals(try(simp only[World.size_alloc,World.a3,World.size_setCell];omega))
    all_goals(try(repeat (first|with_reducible exact ae.refl _ _|with_reducible refine ae.alloc ?_ _|with_reducible refine ae.drew ?_|refine ae.setCell ?_ (Or.inl (Or.inl rfl)) _|refine ae.setCell ?_ (Or.inl (Or.inr rfl)) _)))
    all_goals(try(simp[go_sem,a2,b2,b4,b5];done))
    all_goals
     have ft:E.cell? ⟨wc.heap.size,0,none⟩=some (.int .u8 0):=(a2 _ _ (Nat.le_refl _) (by simp only[World.size_alloc,World.a3];omega)).trans ((World.cell?_alloc_lt _ _ _ (by simp)).trans (by simp[go_sem]))
     have fv:E.cell? ⟨wc.heap.size,1,none⟩=some (.int .u32 0):=(a2 _ _ (Nat.le_refl _) (by simp only[World.size_alloc,World.a3];omega)).trans ((World.cell?_alloc_lt _ _ _ (by simp)).trans (by simp[go_sem]))
     simp[go_sem,ft,fv]
   case rest=>
    obtain⟨a',bb,d1,rfl,rfl,rfl,j⟩:=hcut;replace bw:=j.av.cellAt X bw;replace Y:=j.av.cellAt J Y;replace Z:=j.av.cellAt J Z;replace ab:=j.av.cellAt K ab;replace ad:=j.av.cellAt K ad;replace dr:=j.av.cellAt b7 dr;replace fb:=j.av.cellAt b7 fb;replace cf:=j.av.cellAt a6 cf;replace cD:=j.av.cellAt a6 cD;replace bi:=fun o:Nat=>j.av.frozen (a:=⟨(w.heap.size+1+1),o,none⟩) (by show(w.heap.size+1+1)<_;omega) J (bi o);replace bn:=fun o:Nat=>j.av.frozen (a:=⟨(w.heap.size+1+1+1),o,none⟩) (by show(w.heap.size+1+1+1)<_;omega) K (bn o);have a5:=j.av.size;have g1:=j.a0;have ds:=j.c0;have hr:=j.a1;have fg:=j.c1;have hg:=aD g1;have hh:=aD ds;dsimp only at hg hh;have e8:=j.nB;have b8:=j.nC;have L:=j.gB;have L:=j.gC;have L:w.heap.size+4≤a':=(by omega);have L:w.heap.size+4≤bb:=(by omega);replace K:=j.no K (by omega);replace J:=j.no J (by omega);replace b7:=j.no b7 (by omega);replace a6:=j.no a6 (by omega);replace X:=j.no X (by omega);have s:=Lib.hid (s.out.box j);replace dl:w.heap.size+4≤wc.heap.size:=(by omega);clear j aw N dj dk b9;by_cases f6:ed=0
    case neg=>
     obtain⟨cv,cx,cy⟩:=lF cl.out.wf d8.out cj.out (ch.out ▸ f6);obtain rfl:ed=6:=ch.out.trans cv;have a1:A=W:=c2.out.trans cx;have bs:=fun(w':World) (b6:ae (fun av=>av=w.heap.size+1+1∨av=w.heap.size+1+1+1) wc w')=>mg (lv:=lv) (f:=f) (M:=M) (lo:=lo) (hi:=hi) s.out (by rw[a1];exact U.out.le (by decide)) (by rw[a1];exact cy) b6 J K;have ci:=Lib.hid bs;clear bs;go_wp2_with fail
     refine bodyPost_ret (v:=.tuple #[.agg #[.int .u8 (⟨0,0⟩:Edge).tag,.int .u32 (⟨0,0⟩:Edge).to],.agg #[.int .u8 (⟨0,0⟩:Edge).tag,.int .u32 (⟨0,0⟩:Edge).to],.int .u8 6]) (by simp[results,Tryz.results265,go_sem,Y,Z,ab,ad]) rfl (ci.out _ ?_)
     (repeat (first|with_reducible exact ae.refl _ _|refine cI (Or.inl rfl) ?_ _ _|refine cI (Or.inr rfl) ?_ _ _|with_reducible refine ae.alloc ?_ _|with_reducible refine ae.drew ?_))
    case pos=>
     subst f6;have cd:=fL cl.out.wf d8.out cj.out ch.out.symm;have e5:=iA cl.out.wf d8.out cj.out ch.out.symm;obtain⟨L,T⟩:=c9.out c7.out.2 (by omega) cj.out;rw[←d5.out]at L;rw[←d7.out]at T;have c6:=Lib.hid (⟨L,T⟩:c.ok∧d.ok);rw[←c2.out]at e5;rw[←c2.out,←d5.out,←d7.out]at cd;have U:=Lib.hid ((U.out.trans e5).le (show(1:Int)+1≤2 by decide));have ea:=Lib.hid cd;have am:lv+1<A.n:=(by have:=cd.ext.n;have:=cj.out;omega);have f0:=Lib.hid am;have g4:=Lib.hid (cd.ext.leads cl.out.cq);have g5:=Lib.hid (cd.ext.leads cl.out.cg);clear cd e5 am c9 L T;have a3:=s.out.a4.lt;have N:=Lib.hid a3;have e1:(aH f A (ak f A (lv+1) a c)).ok:=kQ s.out.a4.wf s.out.a4.bx c5.out.1 c6.out.1 (by omega) (by have:=bv.out;have:=U.out.ext.n;omega) br.out;have a4:=fun(q:World) (O:aa wc q)=>kg (s.out.a4.U O) f (lv+1) a c c5.out.1 c6.out.1;rw[kD br.out]at a4;change ∀q,aa wc q→Calls _ _ _ q fun r w'=>r=.returned (.tuple #[.agg #[.int .u8 (aH f A (ak f A (lv+1) a c)).tag,.int .u32 (aH f A (ak f A (lv+1) a c)).to],.int .u8 (bX A (ak f A (lv+1) a c))])∧ae _ q w'∧ag (au _ q w') w' sb (aR A (ak f A (lv+1) a c))at a4;obtain⟨I,em⟩:∃t,t=aR A (ak f A (lv+1) a c):=⟨_,rfl⟩;obtain⟨x,c'⟩:∃t,t=aH f A (ak f A (lv+1) a c):=⟨_,rfl⟩;obtain⟨ee,eR⟩:∃t,t=bX A (ak f A (lv+1) a c):=⟨_,rfl⟩;rw[←em,←c',←eR]at a4;rw[←c']at e1;have aw:=Lib.hid (fun(q:World) (O:aa wc q)=>gF N.out (Nat.le_refl _) (a4 q O));have c3:=Lib.hid em;have c0:=Lib.hid eR;have fx:=Lib.hid c';have f1:=Lib.hid e1;clear a4 a3 em eR c' e1;have e6:wc.heap.size≠wb:=(by omega);have S:wc.heap.size≠a7:=(by omega);have ce:wc.heap.size≠a':=(by omega);have gu:wc.heap.size≠w.heap.size:=(by omega);go_wp2_with fail
     go_cut [17,14] (fun L ca cb=>∃bp d2,L=.pointer (some ⟨bp,0,none⟩)∧ca=.int .u8 ee∧fN d1 wc cb sb I bp bp x x d2)
     case first=>
      go_region_held3 (fun w'=>w'.cell? ⟨wb,0,none⟩=some (.pointer (some ⟨sb,0,none⟩))∧w'.cell? ⟨a7,0,none⟩=some (.int .u8 a.tag)∧w'.cell? ⟨a7,1,none⟩=some (.int .u32 a.to)∧w'.cell? ⟨a',0,none⟩=some (.int .u8 c.tag)∧w'.cell? ⟨a',1,none⟩=some (.int .u32 c.to)) (go_keep) ((go_at_call 71;refine(aw.out _ (by(exact kp))).mono ?_;rintro c8 E ⟨⟨rfl,z,b0⟩,a2,e0,b2,b4,b5⟩;have a5:=z.size;(try simp only[World.size_alloc,World.a3,World.c5]at a5);have fj:=z.cellAt (b:=wb) (o:=0) (v:=.pointer (some ⟨sb,0,none⟩)) X (by go_keep);have fl:=z.cellAt (b:=a7) (o:=0) (v:=.int .u8 a.tag) b7 (by go_keep);have fp:=z.cellAt (b:=a7) (o:=1) (v:=.int .u32 a.to) b7 (by go_keep);have ht:=z.cellAt (b:=a') (o:=0) (v:=.int .u8 c.tag) e8 (by go_keep);have hu:=z.cellAt (b:=a') (o:=1) (v:=.int .u32 c.to) e8 (by go_keep);have e':E.heap.size≠wb:=(by omega);have fa:E.heap.size≠a7:=(by omega);have g0:E.heap.size≠a':=(by omega);have ho:E.heap.size≠w.heap.size:=(by omega)))
      all_goals(try go_wp2_with fail)
      all_goals go_meet
      all_goals refine⟨_,_,rfl,rfl,iK N.out (by(exact kp)) z b0 ?_ ?_ ?_ ?_ ?_ ?_ ?_⟩
      all_goals(try(simp[go_sem];done))
      all_goals(try(simp only[World.size_alloc,World.a3,World.size_setCell];omega))
      all_goals(try(repeat (first|with_reducible exact ae.refl _ _|with_reducible refine ae.alloc ?_ _|with_reducible refine ae.drew ?_|refine ae.setCell ?_ (Or.inl (Or.inl rfl)) _|refine ae.setCell ?_ (Or.inl (Or.inr rfl)) _)))
      all_goals(simp[go_sem,a2,b2,b4,b5];done)
     case rest=>
      obtain⟨bp,d2,rfl,rfl,j⟩:=hcut;replace bw:=j.av.cellAt X bw;replace Y:=j.av.cellAt J Y;replace Z:=j.av.cellAt J Z;replace ab:=j.av.cellAt K ab;replace ad:=j.av.cellAt K ad;replace cf:=j.av.cellAt a6 cf;replace cD:=j.av.cellAt a6 cD;replace ds:=j.av.cellAt b8 ds;replace fg:=j.av.cellAt b8 fg;replace bi:=fun o:Nat=>j.av.frozen (a:=⟨(w.heap.size+1+1),o,none⟩) (by show(w.heap.size+1+1)<_;omega) J (bi o);replace bn:=fun o:Nat=>j.av.frozen (a:=⟨(w.heap.size+1+1+1),o,none⟩) (by show(w.heap.size+1+1+1)<_;omega) K (bn o);have a5:=j.av.size;have dB:=j.a0;have fi:=j.a1;have hj:=aD dB;dsimp only at hj;have db:=j.nB;have L:=j.gB;have L:w.heap.size+4≤bp:=(by omega);replace K:=j.no K (by omega);replace J:=j.no J (by omega);replace a6:=j.no a6 (by omega);replace b8:=j.no b8 (by omega);replace X:=j.no X (by omega);have s:=Lib.hid (s.out.box j);replace dl:w.heap.size+4≤wc.heap.size:=(by omega);clear j aw N dr fb g1 hr b7 e8;have b3:=iP ea.out.wf br.out (l:=lv+1) (by omega) f0.out g4.out ea.out.cq;by_cases f7:ee=0
      case neg=>
       obtain⟨cv,cx,cy⟩:ee=6∧I=A∧A.room≤A.len:=by
        rcases b3 with⟨S,_⟩|⟨S,ce,_,e7⟩
        ·exact absurd (c0.out.trans S) f7
        ·exact⟨c0.out.trans S,c3.out.trans ce,e7⟩
       subst cv;have a1:=cx;clear b3;have bs:=fun(w':World) (b6:ae (fun av=>av=w.heap.size+1+1∨av=w.heap.size+1+1+1) wc w')=>mg (lv:=lv) (f:=f) (M:=M) (lo:=lo) (hi:=hi) s.out (by rw[a1];exact U.out.le (by decide)) (by rw[a1];exact cy) b6 J K;have ci:=Lib.hid bs;clear bs;go_wp2_with fail
       refine bodyPost_ret (v:=.tuple #[.agg #[.int .u8 (⟨0,0⟩:Edge).tag,.int .u32 (⟨0,0⟩:Edge).to],.agg #[.int .u8 (⟨0,0⟩:Edge).tag,.int .u32 (⟨0,0⟩:Edge).to],.int .u8 6]) (by simp[results,Tryz.results265,go_sem,Y,Z,ab,ad]) rfl (ci.out _ ?_)
       (repeat (first|with_reducible exact ae.refl _ _|refine cI (Or.inl rfl) ?_ _ _|refine cI (Or.inr rfl) ?_ _ _|with_reducible refine ae.alloc ?_ _|with_reducible refine ae.drew ?_))
      case pos=>
       subst f7
       have bg:gX f A (lv+1) a c I x:=by
        rcases b3 with⟨S,bt⟩|⟨S,_⟩
        ·rw[←c3.out,←fx.out]at bt;exact bt
        ·have:=c0.out.trans S;cases this
       have L:bU A I 1:=⟨bg.ext,bg.wf,bg.room,bg.len,fun e3=>by rw[c3.out];exact ly e3 _⟩;have U:=Lib.hid ((U.out.trans L).le (show(2:Int)+1≤3 by decide));have g9:=Lib.hid bg;have g3:=Lib.hid (show lv+1<I.n by have:=bg.ext.n;have:=f0.out;omega);have g6:=Lib.hid (bg.ext.leads g5.out);have g7:=Lib.hid (bg.ext.leads ea.out.cg);clear b3 bg L;have a3:=s.out.a4.lt;have N:=Lib.hid a3;have e2:(aH f I (ak f I (lv+1) b d)).ok:=kQ s.out.a4.wf s.out.a4.bx c5.out.2 c6.out.2 (by omega) (by have:=bv.out;have:=U.out.ext.n;omega) br.out;have a4:=fun(q:World) (O:aa wc q)=>kg (s.out.a4.U O) f (lv+1) b d c5.out.2 c6.out.2;rw[kD br.out]at a4;change ∀q,aa wc q→Calls _ _ _ q fun r w'=>r=.returned (.tuple #[.agg #[.int .u8 (aH f I (ak f I (lv+1) b d)).tag,.int .u32 (aH f I (ak f I (lv+1) b d)).to],.int .u8 (bX I (ak f I (lv+1) b d))])∧ae _ q w'∧ag (au _ q w') w' sb (aR I (ak f I (lv+1) b d))at a4;obtain⟨cn,en⟩:∃t,t=aR I (ak f I (lv+1) b d):=⟨_,rfl⟩;obtain⟨y,da⟩:∃t,t=aH f I (ak f I (lv+1) b d):=⟨_,rfl⟩;obtain⟨bx,eS⟩:∃t,t=bX I (ak f I (lv+1) b d):=⟨_,rfl⟩;rw[←en,←da,←eS]at a4;rw[←da]at e2;have aw:=Lib.hid (fun(q:World) (O:aa wc q)=>gF N.out (Nat.le_refl _) (a4 q O));have c4:=Lib.hid en;have fD:=Lib.hid eS;have fz:=Lib.hid da;have f2:=Lib.hid e2;clear a4 a3 en eS da e2;have e6:wc.heap.size≠wb:=(by omega);have S:wc.heap.size≠a8:=(by omega);have ce:wc.heap.size≠bb:=(by omega);have gu:wc.heap.size≠w.heap.size:=(by omega);go_wp2_with fail
       go_cut [18,14] (fun q ca cb=>∃bq cS,q=.pointer (some ⟨bq,0,none⟩)∧ca=.int .u8 bx∧fN d2 wc cb sb cn bq bq y y cS)
       case first=>
        go_region_held3 (fun w'=>w'.cell? ⟨wb,0,none⟩=some (.pointer (some ⟨sb,0,none⟩))∧w'.cell? ⟨a8,0,none⟩=some (.int .u8 b.tag)∧w'.cell? ⟨a8,1,none⟩=some (.int .u32 b.to)∧w'.cell? ⟨bb,0,none⟩=some (.int .u8 d.tag)∧w'.cell? ⟨bb,1,none⟩=some (.int .u32 d.to)) (go_keep) ((go_at_call 71;refine(aw.out _ (by(exact kp))).mono ?_;rintro c8 E ⟨⟨rfl,z,b0⟩,a2,e0,b2,b4,b5⟩;have a5:=z.size;(try simp only[World.size_alloc,World.a3,World.c5]at a5);have fj:=z.cellAt (b:=wb) (o:=0) (v:=.pointer (some ⟨sb,0,none⟩)) X (by go_keep);have fl:=z.cellAt (b:=a8) (o:=0) (v:=.int .u8 b.tag) a6 (by go_keep);have fp:=z.cellAt (b:=a8) (o:=1) (v:=.int .u32 b.to) a6 (by go_keep);have ht:=z.cellAt (b:=bb) (o:=0) (v:=.int .u8 d.tag) b8 (by go_keep);have hu:=z.cellAt (b:=bb) (o:=1) (v:=.int .u32 d.to) b8 (by go_keep);have e':E.heap.size≠wb:=(by omega);have fa:E.heap.size≠a8:=(by omega);have g0:E.heap.size≠bb:=(by omega);have ho:E.heap.size≠w.heap.size:=(by omega)))
        all_goals(try go_wp2_with fail)
        all_goals go_meet
        all_goals refine⟨_,_,rfl,rfl,iK N.out (by(exact kp)) z b0 ?_ ?_ ?_ ?_ ?_ ?_ ?_⟩
        all_goals(try(simp[go_sem];done))
        all_goals(try(simp only[World.size_alloc,World.a3,World.size_setCell];omega))
        all_goals(try(repeat (first|with_reducible exact ae.refl _ _|with_reducible refine ae.alloc ?_ _|with_reducible refine ae.drew ?_|refine ae.setCell ?_ (Or.inl (Or.inl rfl)) _|refine ae.setCell ?_ (Or.inl (Or.inr rfl)) _)))
        all_goals(simp[go_sem,a2,b2,b4,b5];done)
       case rest=>
        obtain⟨bq,cS,rfl,rfl,j⟩:=hcut;replace Y:=j.av.cellAt J Y;replace Z:=j.av.cellAt J Z;replace ab:=j.av.cellAt K ab;replace ad:=j.av.cellAt K ad;replace dB:=j.av.cellAt db dB;replace fi:=j.av.cellAt db fi;replace bi:=fun o:Nat=>j.av.frozen (a:=⟨(w.heap.size+1+1),o,none⟩) (by show(w.heap.size+1+1)<_;omega) J (bi o);replace bn:=fun o:Nat=>j.av.frozen (a:=⟨(w.heap.size+1+1+1),o,none⟩) (by show(w.heap.size+1+1+1)<_;omega) K (bn o);have a5:=j.av.size;have g2:=j.a0;have hs:=j.a1;have hk:=aD g2;dsimp only at hk;have q:=j.nB;have q:=j.gB;have q:w.heap.size+4≤bq:=(by omega);replace K:=j.no K (by omega);replace J:=j.no J (by omega);replace db:=j.no db (by omega);have s:=Lib.hid (s.out.box j);replace dl:w.heap.size+4≤wc.heap.size:=(by omega);have b3:=iP g9.out.wf br.out (l:=lv+1) (by omega) g3.out g6.out g7.out
        have gb:∀w':World,ae (fun av=>av=w.heap.size+1+1∨av=w.heap.size+1+1+1) wc w'→lK F w sb lv f M lo hi (.returned (.tuple #[.agg #[.int .u8 x.tag,.int .u32 x.to],.agg #[.int .u8 y.tag,.int .u32 y.to],.int .u8 bx])) w':=fun w' b6=>by
         have gc:=s.out.out b6 J K;rcases b3 with⟨S,bt⟩|⟨S,ce,gu,e7⟩
         ·have co:bx=0:=fD.out.trans S;rw[←c4.out,←fz.out]at bt;have hc:bU I cn 1:=⟨bt.ext,bt.wf,bt.room,bt.len,fun e3=>by rw[c4.out];exact ly e3 _⟩;refine⟨cn,x,y,bx,cS,rfl,f1.out,f2.out,.inl co,gc,(U.out.trans hc).le (show(3:Int)+1≤4 by decide),fun f4=>(by rw[co]at f4;cases f4),fun _=>?_⟩;exact⟨W,A,I,a,b,c,d,cg.out.symm,c1.out,d3.out,d6.out,ch.out.symm,c2.out,d5.out,d7.out,c0.out.symm,c3.out,fx.out,S,c4.out,fz.out⟩
         ·have co:bx=6:=fD.out.trans S;have a1:cn=I:=c4.out.trans ce;refine⟨cn,x,y,bx,cS,rfl,f1.out,f2.out,.inr co,gc,by rw[a1];exact U.out.le (by decide),fun _=>by rw[a1];exact e7,fun eg=>(by rw[co]at eg;cases eg)⟩
        have g':=Lib.hid gb;clear b3 gb j aw N cf cD ds fg a6 b8;go_wp2_with fail
        have j:(w.heap.size+1+1==bp)=false:=(by simp;omega);have c8:(w.heap.size+1+1+1==bq)=false:=(by simp;omega);have j:w.heap.size+1+1≠bp:=(by omega);have j:w.heap.size+1+1≠bq:=(by omega);have j:w.heap.size+1+1+1≠bp:=(by omega);have j:w.heap.size+1+1+1≠bq:=(by omega);go_region
        go_wp2_with fail
        refine bodyPost_ret (v:=.tuple #[.agg #[.int .u8 x.tag,.int .u32 x.to],.agg #[.int .u8 y.tag,.int .u32 y.to],.int .u8 bx]) (by simp[results,Tryz.results265,go_sem,Y,Z,ab,ad,dB,fi,g2,hs]) rfl (g'.out _ ?_)
        (repeat (first|with_reducible exact ae.refl _ _|refine cI (Or.inl rfl) ?_ _ _|refine cI (Or.inr rfl) ?_ _ _|with_reducible refine ae.alloc ?_ _|with_reducible refine ae.drew ?_|with_reducible refine ae.drewN ?_ _))

end Go.Proofs.YtafkamlhimkbmaaGreat
