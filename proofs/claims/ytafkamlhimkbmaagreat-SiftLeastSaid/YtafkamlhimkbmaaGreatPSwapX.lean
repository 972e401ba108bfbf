/-
  swap: the map from edges of forms at levels to edges: its keys, what it holds.
-/
import Derived.Test.YtafkamlhimkbmaaGreatPSwapE
import Derived.Test.YtafkamlhimkbmaaGreatPSwapP
namespace Go.Proofs.YtafkamlhimkbmaaGreat
set_option maxRecDepth 1000000
set_option maxHeartbeats 8000000
set_option linter.unusedSimpArgs false
set_option linter.unusedVariables false
open Go.RowKit

theorem zk:(309:TypeId)<Tryz.prog.types.size:=of_decide_eq_true (by kernel_rfl)

theorem Ck:(match Tryz.prog.underlying 309 with|some (.array _ _)|some (.struct _)=>true|_=>false)=true:=by rw[Tryz.underlying309]

theorem mg:Go.Maps.Keyed Tryz.prog 309:=Go.Maps.Keyed.of_law (deep_law_laid wQ (m:=3) (by omega) zk (by kernel_rfl) Ck)

def iy (f:Int)(e:Edge)(l:Int):Value:=.agg #[.int .u8 f,.int .u8 e.tag,.int .u32 e.to,.int .i64 l]

noncomputable def cZ (f:Int)(e:Edge)(l:Int):Lit:=.string (keyBytes [.int .u8 f,.int .u8 e.tag,.int .u32 e.to,.int .i64 l])

theorem ku (f:Int)(e:Edge)(l:Int)(X:1≤f∧f≤5)(j:e.ok)(U:0≤l)(W:l≤16):keyOf Tryz.prog 309 (iy f e l)=some (cZ f e l):=by
 obtain⟨d,K⟩:=BC;have s:IntKind.u8.min=0:=rfl;have q:IntKind.u8.max=255:=rfl;have N:IntKind.u32.min=0:=rfl;have L:IntKind.u32.max=4294967295:=rfl;have w0:(Lit.int .u8 f).wf=true:=by simp only[Lit.wf,Bool.and_eq_true,decide_eq_true_eq,s,q];omega
 have w1:(Lit.int .u8 e.tag).wf=true:=by simp only[Lit.wf,Bool.and_eq_true,decide_eq_true_eq,s,q];exact j.1
 have S:(Lit.int .u32 e.to).wf=true:=by simp only[Lit.wf,Bool.and_eq_true,decide_eq_true_eq,N,L];exact j.2
 have T:(Lit.int .i64 l).wf=true:=WalkArith.wf_i64 (by omega);have O:Tryz.prog.keyType 309=true:=by kernel_rfl
 have t:Tryz.prog.cellsOf 309=4:=by kernel_rfl
 have z:Tryz.prog.cellsOf 52=2:=by kernel_rfl
 have A:Tryz.prog.cellsOf 3=1:=by kernel_rfl
 have E:Tryz.prog.cellsOf 5=1:=by kernel_rfl
 have I:Tryz.prog.cellsOf 50=1:=by kernel_rfl
 have J:Tryz.prog.cellsOf 53=1:=by kernel_rfl
 unfold keyOf iy cZ;rw[Tryz.underlying309];simp only[O,K];simp[Value.formed,Value.cells,Tryz.underlying309,t,Program.keyLits,Tryz.underlying52,Tryz.underlying53,Tryz.underlying3,Tryz.underlying5,Tryz.underlying50,z,A,E,I,J,w0,w1,S,T]
 rw[if_pos (fun i hi=>by
  rcases i with _|_|i;·exact of_decide_eq_false rfl
  ·exact of_decide_eq_false rfl
  ·omega)]
 rfl

theorem qH {f q:Int}{e j:Edge}{l l':Int}(J:1≤f∧f≤5)(K:1≤q∧q≤5)(E:e.ok)(I:j.ok)(s:0≤l)(z:l≤16)(t:0≤l')(A:l'≤16)(h:cZ f e l=cZ q j l'):f=q∧e=j∧l=l':=by
 have L:=ku f e l J E s z;have s:=ku q j l' K I t A;rw[←h]at s;have:=mg.inj L s;unfold iy at this;cases e;cases j;simp at this;obtain⟨a,b,c,d⟩:=this;subst a b c d;exact⟨rfl,rfl,rfl⟩

theorem qI (f:Int)(e:Edge)(l:Int):WideAt.IsKeyLit (cZ f e l):=True.intro

structure eM (lv:Int)(M:St)(V:List (Int×Edge×Int))(D:DataW Unit):Prop where
 isMap:Go.Maps.IsMap D
 b1:∀p∈V,(1≤p.1∧p.1≤5)∧p.2.1.ok∧0≤p.2.2∧p.2.2≤16∧M.leads p.1 p.2.1 p.2.2=true
 ft:∀f e l,1≤f∧f≤5→e.ok→0≤l→l≤16→(Go.Maps.has D (cZ f e l)=true↔(f,e,l)∈V)
 cS:∀p∈V,∃x,D.atKey (cZ p.1 p.2.1 p.2.2) (dE ⟨0,0⟩)=dE x∧eL lv p.1 M p.2.1 p.2.2 x

theorem eM.empty (lv:Int)(M:St):eM lv M [] (.map []):=by
 refine⟨Go.Maps.isMap_empty,fun p h=>by simp at h,fun f e l _ _ _ _=>?_,fun p h=>by simp at h⟩;simp[Go.Maps.has_eq]

theorem eM.ext {lv:Int}{M M':St}{V:List (Int×Edge×Int)}{D:DataW Unit}(h:eM lv M V D)(q:au M M')(s:M.wf):eM lv M' V D:=
 ⟨h.isMap,fun p j=>by obtain⟨a,b,c,d,e⟩:=h.b1 p j;exact⟨a,b,c,d,q.leads e⟩,h.ft,fun p j=>by
  obtain⟨x,a,b⟩:=h.cS p j
  exact⟨x,a,b.ext q s (h.b1 p j).2.2.2.2⟩⟩

theorem eM.put {lv f:Int}{M:St}{V:List (Int×Edge×Int)}{D:DataW Unit}(h:eM lv M V D){e x:Edge}{l:Int}(A:1≤f∧f≤5)(z:e.ok)(s:0≤l)(t:l≤16)(S:M.leads f e l=true)(hp:(f,e,l)∉V)(T:eL lv f M e l x) :
  eM lv M (V++[(f,e,l)]) (D.put (cZ f e l) (dE x)):=by
 refine⟨h.isMap.put _ _,fun p hp=>?_,fun I E l' N L J K=>?_,fun p j=>?_⟩
 ·rcases List.mem_append.1 hp with hp|hp;·exact h.b1 p hp
  ·rw[List.mem_singleton]at hp;subst hp;exact⟨A,z,s,t,S⟩
 ·by_cases q:cZ I E l'=cZ f e l
  ·obtain⟨rfl,rfl,rfl⟩:=qH N A L z J K s t q;rw[Go.Maps.has_put_same h.isMap (qI _ _ _)];simp
  ·rw[Go.Maps.has_put_other q,h.ft I E l' N L J K,List.mem_append,List.mem_singleton];constructor;·exact .inl
   ·rintro(a|a);·exact a
    ·cases a;exact absurd rfl q
 ·rcases List.mem_append.1 j with j|j
  ·obtain⟨U,a,b,c,d⟩:=h.b1 p j
   have q:cZ p.1 p.2.1 p.2.2≠cZ f e l:=fun O=>by
    obtain⟨E,I,J⟩:=qH U A a z b c s t O;exact hp (by rw[←E,←I,←J];exact j)
   obtain⟨y,s,t⟩:=h.cS p j;exact⟨y,by rw[Go.Maps.atKey_put_other q];exact s,t⟩
  ·rw[List.mem_singleton]at j;subst j;exact⟨x,Go.Maps.atKey_put_same h.isMap (qI _ _ _) _ _,T⟩

theorem eM.none {lv f:Int}{M:St}{V:List (Int×Edge×Int)}{D:DataW Unit}(h:eM lv M V D){e:Edge}{l:Int}(A:1≤f∧f≤5)(z:e.ok)(q:0≤l)(s:l≤16)(E:(f,e,l)∉V):Go.Maps.has D (cZ f e l)=false∧D.atKey (cZ f e l) (dE ⟨0,0⟩)=dE ⟨0,0⟩:=by
 have j:Go.Maps.has D (cZ f e l)=false:=by
  cases t:Go.Maps.has D (cZ f e l)with
  |false=>rfl
  |true=>exact absurd ((h.ft f e l A z q s).1 t) E
 exact⟨j,Go.Maps.atKey_of_not_has j _⟩

structure bB (F:Nat→Prop)(W:World)(sb wb b:Nat)(lv:Int)(M:St)(V:List (Int×Edge×Int))(D:DataW Unit):Prop where
 a5:ag F W sb M
 c0:W.cell? ⟨wb,0,none⟩=some (.pointer (some ⟨sb,0,none⟩))
 c1:W.cell? ⟨wb,1,none⟩=some (.int .i64 lv)
 c2:W.cell? ⟨wb,2,none⟩=some (.map (some b))
 nF:¬F b
 nW:¬F wb
 own:W.ownsMap Tryz.prog 309 gH b V.length D
 db:eM lv M V D

theorem bB.block {F:Nat→Prop}{j:World}{sb wb b:Nat}{lv:Int}{M:St}{V:List (Int×Edge×Int)}{D:DataW Unit}(h:bB F j sb wb b lv M V D):∃es clock,j.heap[b]?=some (.map es clock):=by
 obtain⟨es,clock,j,_⟩:=h.own;exact⟨es,clock,j⟩

theorem bB.cy {F:Nat→Prop}{j:World}{sb wb b:Nat}{lv:Int}{M:St}{V:List (Int×Edge×Int)}{D:DataW Unit}(h:bB F j sb wb b lv M V D){k o:Nat}{v:Value}(s:j.cell? ⟨k,o,none⟩=some v):k≠b:=by
 obtain⟨es,clock,q⟩:=h.block;intro e;subst e;simp[World.cell?,q]at s

theorem bB.lt {F:Nat→Prop}{j:World}{sb wb b:Nat}{lv:Int}{M:St}{V:List (Int×Edge×Int)}{D:DataW Unit}(h:bB F j sb wb b lv M V D):b<j.heap.size∧wb<j.heap.size:=by
 obtain⟨es,clock,j⟩:=h.block;exact⟨(Array.getElem?_eq_some_iff.1 j).1,aD h.c0⟩

theorem im {j W':World}{b n:Nat}{D:DataW Unit}(h:j.ownsMap Tryz.prog 309 gH b n D)(q:W'.heap[b]?=j.heap[b]?):W'.ownsMap Tryz.prog 309 gH b n D:=by
 obtain⟨es,clock,j,r⟩:=h;exact⟨es,clock,by rw[q];exact j,r⟩

theorem bB.U {F:Nat→Prop}{q W':World}{sb wb b:Nat}{lv:Int}{M:St}{V:List (Int×Edge×Int)}{D:DataW Unit}(h:bB F q sb wb b lv M V D)(j:aa q W'):bB F W' sb wb b lv M V D:=
 ⟨h.a5.U j,j.cell h.c0,j.cell h.c1,j.cell h.c2,h.nF,h.nW,im h.own (j.block b h.lt.1),h.db⟩

theorem bB.store {F F':Nat→Prop}{s W':World}{sb wb b:Nat}{lv:Int}{M M':St}{V:List (Int×Edge×Int)}{D:DataW Unit}(h:bB F s sb wb b lv M V D)(j:ae F s W')(E:ag F' W' sb M')(hF:∀z,F' z→F z∨s.heap.size≤z)(A:au M M'):bB F' W' sb wb b lv M' V D:=by
 obtain⟨I,s⟩:=h.lt;have J:¬F' b:=fun t=>by rcases hF _ t with q|q;exact h.nF q;omega
 have K:¬F' wb:=fun t=>by rcases hF _ t with q|q;exact h.nW q;omega
 exact⟨E,j.cellAt h.nW h.c0,j.cellAt h.nW h.c1,j.cellAt h.nW h.c2,J,K,im h.own (j.block b I h.nF),h.db.ext A h.a5.wf⟩

theorem bB.e3 {F:Nat→Prop}{q:World}{sb wb b:Nat}{lv f:Int}{M:St}{V:List (Int×Edge×Int)}{D:DataW Unit}(h:bB F q sb wb b lv M V D){e:Edge}{l:Int}(A:1≤f∧f≤5)(z:e.ok)(s:0≤l)(t:l≤16) :
  ∃x,D.atKey (cZ f e l) (dE ⟨0,0⟩)=dE x∧∀W',W'.heap[b]?=q.heap[b]?→(Instr.lookup 304 (.map (some b)) (iy f e l) true).run Tryz.prog W'=.ok (.tuple #[.agg #[.int .u8 x.tag,.int .u32 x.to],.bool (Go.Maps.has D (cZ f e l))]) W':=by
 have j:∃x,D.atKey (cZ f e l) (dE ⟨0,0⟩)=dE x:=by
  by_cases E:(f,e,l)∈V
  ·obtain⟨x,a,_⟩:=h.db.cS _ E;exact⟨x,a⟩
  ·exact⟨_,(h.db.none A z s t E).2⟩
 obtain⟨x,j⟩:=j
 refine⟨x,j,fun W' I=>?_⟩
 obtain⟨v,ps,E,q⟩:=(im h.own I).look_ok mg Tryz.underlying304 (Cv W') (oM ⟨0,0⟩) (ku f e l A z s t)
 rw[j]at q
 rw[E,uv q]

theorem bB.put {F:Nat→Prop}{q W':World}{sb wb b:Nat}{lv f:Int}{M:St}{V:List (Int×Edge×Int)}{D:DataW Unit}(h:bB F q sb wb b lv M V D){e x:Edge}{l:Int}(j:ae (fun k=>k=b) q W')(J:W'.ownsMap Tryz.prog 309 gH b (V.length+1) (D.put (cZ f e l) (dE x)))
  (A:1≤f∧f≤5) (z:e.ok) (s:0≤l) (t:l≤16) (I:M.leads f e l=true) (K:(f,e,l)∉V) (L:eL lv f M e l x):bB F W' sb wb b lv M (V++[(f,e,l)]) (D.put (cZ f e l) (dE x)):=by
 refine⟨h.a5.a4 j (fun k E e=>by subst e;exact h.nF E),j.cellAt (h.cy h.c0) h.c0,j.cellAt (h.cy h.c0) h.c1,j.cellAt (h.cy h.c0) h.c2,h.nF,h.nW,?_,h.db.put A z s t I K L⟩
 rw[List.length_append]
 exact J

def gA (F:Nat→Prop)(w:World)(sb wb b:Nat)(lv f:Int)(M:St)(V:List (Int×Edge×Int))(e:Edge)(l:Int)(r:Ending)(s:World):Prop:=
 ∃(M':St) (x:Edge) (q:Int) (F':Nat→Prop),r=.returned (.tuple #[.agg #[.int .u8 x.tag,.int .u32 x.to],.int .u8 q])∧dX lv f M e l M' x q (df lv l)∧x.ok∧(q=0∨q=6) ∧
  ae (fun j=>F j∨j=b) w s∧(∀j,F' j→F j∨w.heap.size≤j)∧ag F' s sb M' ∧
  (q=0→∃j q,bB F' s sb wb b lv M' j q∧j.length+1≤V.length+2 ^ ((lv-l).toNat+1)∧∀q∈j,q∈V∨l≤q.2.2)

section
variable {F:Nat→Prop}{w:World}{sb wb b:Nat}{lv f:Int}{M:St}{V:List (Int×Edge×Int)}{D:DataW Unit}

theorem sr (h:bB F w sb wb b lv M V D){e x:Edge}{l:Int}(q:eL lv f M e l x){s:World}(j:aa w s) :
  gA F w sb wb b lv f M V e l (.returned (.tuple #[.agg #[.int .u8 x.tag,.int .u32 x.to],.int .u8 0])) s:=
 ⟨M,x,0,F,rfl,⟨(bR.refl h.a5.wf).le (by have:=lL (lv:=lv) (l:=l);omega),fun _=>q,fun t=>absurd rfl t⟩,q.ok,.inl rfl,aa.av j _,fun z s=>.inl s,h.a5.U j,fun _=>⟨V,D,h.U j,Nat.add_le_add_left (Nat.pow_pos (by decide)) _,fun s q=>.inl q⟩⟩

theorem lC {e:Edge}{l:Int}{t:St}{q:Nat→Prop}{z E:World}{R:Nat}(K:dX lv f M e l t ⟨0,0⟩ 6 (df lv l))(N:ae (fun j=>F j∨j=b) w z)(I:∀j,q j→F j∨w.heap.size≤j)(hS:ag q z sb t)
  (A:ae (fun j=>j=R) z E) (J:¬q R) (O:w.heap.size≤R):gA F w sb wb b lv f M V e l (.returned (.tuple #[.agg #[.int .u8 (⟨0,0⟩:Edge).tag,.int .u32 (⟨0,0⟩:Edge).to],.int .u8 6])) E:=
 ⟨t,_,6,q,rfl,K,dL,.inr rfl,N.b8 A (fun i hi s=>by omega),I,hS.a4 A (fun k L s=>by subst s;exact J L),fun s=>by cases s⟩

theorem sn {e x:Edge}{l:Int}{E:St}{A:List (Int×Edge×Int)}{L:DataW Unit}{z:Nat→Prop}{K S:World}{R:Nat}(Y:dX lv f M e l E x 0 (df lv l))(ab:x.ok)(Z:ae (fun s=>F s∨s=b) w K)(T:∀s,z s→F s∨w.heap.size≤s)(q:bB z K sb wb b lv E A L)
  (W:A.length+1≤V.length+2 ^ ((lv-l).toNat+1)) (U:∀O∈A,O∈V∨l≤O.2.2)
  (t:ae (fun s=>s=R) K S) (N:¬z R) (ad:w.heap.size≤R) (X:R≠b) (J:R≠wb):gA F w sb wb b lv f M V e l (.returned (.tuple #[.agg #[.int .u8 x.tag,.int .u32 x.to],.int .u8 0])) S:=
 ⟨E,_,0,z,rfl,Y,ab,.inl rfl,Z.b8 t (fun i hi j=>by omega),T,q.a5.a4 t (fun k I j=>by subst j;exact N I),fun _=>⟨A,L,
  ⟨q.a5.a4 t (fun k I j=>by subst j;exact N I),t.cellAt (fun j=>J j.symm) q.c0,t.cellAt (fun j=>J j.symm) q.c1,t.cellAt (fun j=>J j.symm) q.c2,q.nF,q.nW,im q.own (t.block b q.lt.1 (fun j=>X j.symm)),q.db⟩,W,U⟩⟩

end

structure Pg (F:Nat→Prop)(w W:World)(sb:Nat)(F1:Nat→Prop)(M:St):Prop where
 av:ae F w W
 a5:ag F1 W sb M
 sub:∀j,F1 j→F j∨w.heap.size≤j

theorem Pg.box {F s t:Nat→Prop}{w z E:World}{sb:Nat}{M M':St}{B C:Nat}{lo hi:Edge}(h:Pg F w z sb s M)(j:fE s z E sb M' B C lo hi t):Pg F w E sb t M':=by
 have s:=h.av.size;refine⟨h.av.b8 j.av (fun i hi I=>?_),j.a5,fun A J=>?_⟩
 ·rcases h.sub i I with q|q;·exact q
  ·omega
 ·rcases j.sub A J with q|q;·exact h.sub A q
  ·exact .inr (by omega)

theorem fE.no {F j:Nat→Prop}{w0 A:World}{sb:Nat}{s:St}{B C:Nat}{lo hi:Edge}(h:fE F w0 A sb s B C lo hi j){k:Nat}(z:¬F k)(E:k<w0.heap.size):¬j k:=fun t=>by
 rcases h.sub k t with q|q;·exact z q
 ·omega

theorem cE {P:Nat→Prop}{R:Nat}(j:P R){x y:World}(h:ae P x y)(o:Nat)(v:Value):ae P x (y.setCell ⟨R,o,none⟩ v):=h.setCell (Or.inl j) v

def rH (lv f:Int)(q:St)(lo hi:Edge)(z:St)(x y:Edge):Prop:=
 ∃(j s t:St) (a b c d:Edge),bQ q (af q f lo (lv+1))=0∧j=bN q (af q f lo (lv+1))∧a=bK q (af q f lo (lv+1))∧b=bf q f (af q f lo (lv+1)) ∧
  bQ j (af j f hi (lv+1))=0∧s=bN j (af j f hi (lv+1))∧c=bK j (af j f hi (lv+1))∧d=bf j f (af j f hi (lv+1)) ∧
  bS s (aj f s (lv+1) a c)=0∧t=aM s (aj f s (lv+1) a c)∧x=aE f s (aj f s (lv+1) a c) ∧
  bS t (aj f t (lv+1) b d)=0∧z=aM t (aj f t (lv+1) b d)∧y=aE f t (aj f t (lv+1) b d)

def ll (F:Nat→Prop)(w:World)(sb:Nat)(lv f:Int)(M:St)(lo hi:Edge)(r:Ending)(s:World):Prop:=
 ∃(j:St) (x y:Edge) (q:Int) (F':Nat→Prop),r=.returned (.tuple #[.agg #[.int .u8 x.tag,.int .u32 x.to],.agg #[.int .u8 y.tag,.int .u32 y.to],.int .u8 q])∧x.ok∧y.ok∧(q=0∨q=6)∧Pg F w s sb F' j∧bR M j 4∧(q=6→j.room≤j.len)∧(q=0→rH lv f M lo hi j x y)

theorem Pg.out {F j:Nat→Prop}{w q E:World}{sb:Nat}{M:St}(h:Pg F w q sb j M)(z:ae (fun A=>A=w.heap.size+1+1∨A=w.heap.size+1+1+1) q E)(I:¬j (w.heap.size+1+1))(J:¬j (w.heap.size+1+1+1)):Pg F w E sb j M:=
 ⟨h.av.b8 z (fun i hi s=>by omega),h.a5.a4 z (fun k t s=>by rcases s with rfl|rfl;exact I t;exact J t),h.sub⟩

theorem lN {F q:Nat→Prop}{w s z:World}{sb:Nat}{lv f:Int}{M j:St}{lo hi:Edge}(h:Pg F w s sb q j)(J:bR M j 4)(E:j.room≤j.len)(I:ae (fun t=>t=w.heap.size+1+1∨t=w.heap.size+1+1+1) s z)(K:¬q (w.heap.size+1+1))(L:¬q (w.heap.size+1+1+1)) :
  ll F w sb lv f M lo hi (.returned (.tuple #[.agg #[.int .u8 (⟨0,0⟩:Edge).tag,.int .u32 (⟨0,0⟩:Edge).to],.agg #[.int .u8 (⟨0,0⟩:Edge).tag,.int .u32 (⟨0,0⟩:Edge).to],.int .u8 6])) z:=
 ⟨j,_,_,6,q,rfl,dL,dL,.inr rfl,h.out I K L,J,fun _=>E,fun A=>by cases A⟩

theorem tX {F:Nat→Prop}{w:World}{sb wb:Nat}{lv f:Int}{M:St}(b2:ag F w sb M)(ec:w.cell? ⟨wb,0,none⟩=some (.pointer (some ⟨sb,0,none⟩)))(f3:w.cell? ⟨wb,1,none⟩=some (.int .i64 lv))(Y:¬F wb)
  (f8:1≤f∧f≤5) (gd:M.room<1048576) (ek:0≤lv) (ga:lv+1<M.n) (lo hi:Edge) (f':lo.ok) (f9:hi.ok) (gp:M.leads f lo (lv+1)=true) (gj:M.leads f hi (lv+1)=true) :
  Calls Tryz.prog 265 #[.pointer (some ⟨wb,0,none⟩),.int .u8 f,.agg #[.int .u8 lo.tag,.int .u32 lo.to],.agg #[.int .u8 hi.tag,.int .u32 hi.to]] w (ll F w sb lv f M lo hi):=by
 have hb:=b2.wf.br
 have hv:lv≤14:=by omega
 have hd:=aD ec
 dsimp only at hd
 have av:=Lib.hid b2
 have bs:=Lib.hid f8
 have ea:=Lib.hid gp
 have g8:=Lib.hid gj
 have c8:=Lib.hid (⟨f',f9⟩:lo.ok∧hi.ok)
 have hd:=Lib.hid gd
 have bw:=Lib.hid ga
 clear b2 f8 gp gj f' f9 gd ga hb
 have b2:wb<w.heap.size+1:=by omega
 have b2:wb<w.heap.size+1+1:=by omega
 have b2:wb<w.heap.size+1+1+1:=by omega
 go_enter Tryz.func265,Tryz.ntmps265
 go_wp2_with fail
 obtain⟨N,U⟩:∃N,N=(((w.alloc (.cells #[.int .u8 lo.tag,.int .u32 lo.to] 52)).alloc (.cells #[.int .u8 hi.tag,.int .u32 hi.to] 52)).alloc (.cells #[.int .u8 0,.int .u32 0] 52)).alloc (.cells #[.int .u8 0,.int .u32 0] 52):=⟨_,rfl⟩
 have gx:N.cell? ⟨w.heap.size,0,none⟩=some (.int .u8 lo.tag):=by rw[U];simp[go_sem]
 have gB:N.cell? ⟨w.heap.size,1,none⟩=some (.int .u32 lo.to):=by rw[U];simp[go_sem]
 have dk:N.cell? ⟨(w.heap.size+1),0,none⟩=some (.int .u8 hi.tag):=by rw[U];simp[go_sem]
 have dl:N.cell? ⟨(w.heap.size+1),1,none⟩=some (.int .u32 hi.to):=by rw[U];simp[go_sem]
 have Z:N.cell? ⟨(w.heap.size+1+1),0,none⟩=some (.int .u8 0):=by rw[U];simp[go_sem]
 have ab:N.cell? ⟨(w.heap.size+1+1),1,none⟩=some (.int .u32 0):=by rw[U];simp[go_sem]
 have ad:N.cell? ⟨(w.heap.size+1+1+1),0,none⟩=some (.int .u8 0):=by rw[U];simp[go_sem]
 have am:N.cell? ⟨(w.heap.size+1+1+1),1,none⟩=some (.int .u32 0):=by rw[U];simp[go_sem]
 have bn:∀o:Nat,N.frozen? ⟨w.heap.size+1+1,o,none⟩=false:=fun o=>by rw[U];simp[go_sem]
 have bp:∀o:Nat,N.frozen? ⟨w.heap.size+1+1+1,o,none⟩=false:=fun o=>by rw[U];simp[go_sem]
 have cv:aa w N:=by rw[U];exact((((aa.refl _).alloc _).alloc _).alloc _).alloc _
 have gC:N.heap.size=w.heap.size+4:=by rw[U];simp
 have bx:=cv.cell ec
 have ha:=cv.cell f3
 have e':¬F w.heap.size:=fun b2=>by have:=av.out.lt _ b2;omega
 have ca:¬F (w.heap.size+1):=fun b2=>by have:=av.out.lt _ b2;omega
 have K:¬F (w.heap.size+1+1):=fun b2=>by have:=av.out.lt _ b2;omega
 have L:¬F (w.heap.size+1+1+1):=fun b2=>by have:=av.out.lt _ b2;omega
 have b2:Pg F w N sb F M:=⟨cv.av F,av.out.U cv,fun aw f8=>.inl f8⟩
 have t:=Lib.hid b2
 have W:=Lib.hid (bR.refl av.out.wf)
 rw[←U]
 clear U ec f3 cv b2
 obtain⟨wc,gh⟩:∃wc,wc=N:=⟨_,rfl⟩
 rw[←gh]at gx gB dk dl Z ab ad am bn bp gC bx ha t ⊢
 clear gh N
 obtain⟨dr,hn⟩:w.heap.size+4≤wc.heap.size∧wc.heap.size≤w.heap.size+4:=by omega
 clear gC
 have a4:=t.out.a5.lt
 have O:=Lib.hid a4
 have bg:=fun(s:World) (S:aa wc s)=>lH (t.out.a5.U S) f lo (lv+1) c8.out.1
 rw[me bs.out]at bg
 obtain⟨X,el⟩:∃z,z=bN M (af M f lo (lv+1)):=⟨_,rfl⟩
 obtain⟨a,er⟩:∃z,z=bK M (af M f lo (lv+1)):=⟨_,rfl⟩
 obtain⟨b,et⟩:∃z,z=bf M f (af M f lo (lv+1)):=⟨_,rfl⟩
 obtain⟨ed,ew⟩:∃z,z=bQ M (af M f lo (lv+1)):=⟨_,rfl⟩
 rw[←el,←er,←et,←ew]at bg
 have a1:=Lib.hid (fun(s:World) (S:aa wc s)=>gz O.out (Nat.le_refl _) (bg s S))
 have c2:=Lib.hid el
 have ch:=Lib.hid ew
 have d5:=Lib.hid er
 have d7:=Lib.hid et
 clear bg a4 el ew er et
 have e7:wc.heap.size≠wb:=by omega
 have hl:wc.heap.size+1≠wb:=by omega
 have T:wc.heap.size≠w.heap.size:=by omega
 have hm:wc.heap.size+1≠w.heap.size:=by omega
 go_cut [12,13,14] (fun N U cb cd=>∃a8 a' d1,N=.pointer (some ⟨a8,0,none⟩)∧U=.pointer (some ⟨a',0,none⟩)∧cb=.int .u8 ed∧fE F wc cd sb X a8 a' a b d1)
 case first=>
  go_region_held3 (fun q=>q.cell? ⟨wb,0,none⟩=some (.pointer (some ⟨sb,0,none⟩))∧q.cell? ⟨w.heap.size,0,none⟩=some (.int .u8 lo.tag)∧q.cell? ⟨w.heap.size,1,none⟩=some (.int .u32 lo.to)) (go_keep) ((go_at_call 258;refine(a1.out _ (by(exact kp))).mono ?_;rintro c9 I ⟨⟨rfl,A,b1⟩,a3,e1,b3,b5,b6⟩;have a6:=A.size;(try simp only[World.size_alloc,World.a3,World.cD]at a6);have fl:=A.cellAt (b:=wb) (o:=0) (v:=.pointer (some ⟨sb,0,none⟩)) Y (by go_keep);have fp:=A.cellAt (b:=w.heap.size) (o:=0) (v:=.int .u8 lo.tag) e' (by go_keep);have fs:=A.cellAt (b:=w.heap.size) (o:=1) (v:=.int .u32 lo.to) e' (by go_keep);have fa:I.heap.size≠wb:=(by omega);have hp:I.heap.size+1≠wb:=(by omega);have fb:I.heap.size≠w.heap.size:=(by omega);have hq:I.heap.size+1≠w.heap.size:=(by omega)))
  all_goals(try go_wp2_with fail)
  all_goals go_meet
  all_goals refine⟨_,_,_,rfl,rfl,rfl,iJ O.out (by(exact kp)) A b1 ?_ ?_ ?_ ?_ ?_ ?_ ?_⟩
  all_goals(try(simp[go_sem];done))
  all_goals(try(simp only[World.size_alloc,World.a3,World.size_setCell];omega))
  all_goals(try(repeat (first|with_reducible exact ae.refl _ _|with_reducible refine ae.alloc ?_ _|with_reducible refine ae.drew ?_|refine ae.setCell ?_ (Or.inl (Or.inl rfl)) _|refine ae.setCell ?_ (Or.inl (Or.inr rfl)) _)))
  all_goals(try(simp[go_sem,a3,b3,b5,b6];done))
  all_goals
   have ft:I.cell? ⟨wc.heap.size,0,none⟩=some (.int .u8 0):=(a3 _ _ (Nat.le_refl _) (by simp only[World.size_alloc,World.a3];omega)).trans ((World.cell?_alloc_lt _ _ _ (by simp)).trans (by simp[go_sem]))
   have fv:I.cell? ⟨wc.heap.size,1,none⟩=some (.int .u32 0):=(a3 _ _ (Nat.le_refl _) (by simp only[World.size_alloc,World.a3];omega)).trans ((World.cell?_alloc_lt _ _ _ (by simp)).trans (by simp[go_sem]))
   simp[go_sem,ft,fv]
 case rest=>
  obtain⟨a8,a',d1,rfl,rfl,rfl,j⟩:=hcut;replace bx:=j.av.cellAt Y bx;replace dk:=j.av.cellAt ca dk;replace dl:=j.av.cellAt ca dl;replace Z:=j.av.cellAt K Z;replace ab:=j.av.cellAt K ab;replace ad:=j.av.cellAt L ad;replace am:=j.av.cellAt L am;replace bn:=fun o:Nat=>j.av.frozen (a:=⟨(w.heap.size+1+1),o,none⟩) (by show(w.heap.size+1+1)<_;omega) K (bn o);replace bp:=fun o:Nat=>j.av.frozen (a:=⟨(w.heap.size+1+1+1),o,none⟩) (by show(w.heap.size+1+1+1)<_;omega) L (bp o);have a6:=j.av.size;have ds:=j.a0;have cg:=j.c0;have fg:=j.a1;have cS:=j.c1;have he:=aD ds;have hf:=aD cg;dsimp only at he hf;have b8:=j.nB;have a7:=j.nC;have N:=j.gB;have N:=j.gC;have N:w.heap.size+4≤a8:=by omega
  have N:w.heap.size+4≤a':=by omega
  replace L:=j.no L (by omega);replace K:=j.no K (by omega);replace ca:=j.no ca (by omega);replace Y:=j.no Y (by omega);have t:=Lib.hid (t.out.box j);replace dr:w.heap.size+4≤wc.heap.size:=by omega
  clear j a1 O gx gB e' hn;by_cases f5:ed=0
  case neg=>
   obtain⟨cx,cy,cD⟩:=k8 av.out.wf ea.out bw.out (ch.out ▸ f5);obtain rfl:ed=6:=ch.out.trans cx;have a2:X=M:=c2.out.trans cy;have bt:=fun(q:World) (b7:ae (fun aw=>aw=w.heap.size+1+1∨aw=w.heap.size+1+1+1) wc q)=>lN (lv:=lv) (f:=f) (M:=M) (lo:=lo) (hi:=hi) t.out (by rw[a2];exact W.out.le (by decide)) (by rw[a2];exact cD) b7 K L;have cj:=Lib.hid bt;clear bt;go_wp2_with fail
   refine bodyPost_ret (v:=.tuple #[.agg #[.int .u8 (⟨0,0⟩:Edge).tag,.int .u32 (⟨0,0⟩:Edge).to],.agg #[.int .u8 (⟨0,0⟩:Edge).tag,.int .u32 (⟨0,0⟩:Edge).to],.int .u8 6]) (by simp[results,Tryz.results265,go_sem,Z,ab,ad,am]) rfl (cj.out _ ?_)
   (repeat (first|with_reducible exact ae.refl _ _|refine cE (Or.inl rfl) ?_ _ _|refine cE (Or.inr rfl) ?_ _ _|with_reducible refine ae.alloc ?_ _|with_reducible refine ae.drew ?_))
  case pos=>
   subst f5;have cq:=fB av.out.wf ea.out bw.out ch.out.symm;have e5:=iA av.out.wf ea.out bw.out ch.out.symm;obtain⟨U,b2⟩:=nI av.out.wf av.out.b0 (fun id r N=>av.out.b1 N) (f:=f) c8.out.1 (by omega) bw.out;rw[←c2.out]at e5;rw[←c2.out,←d5.out,←d7.out]at cq;rw[←d5.out]at U;rw[←d7.out]at b2;have W:=Lib.hid ((W.out.trans e5).le (show(0:Int)+1≤1 by decide));have cn:=Lib.hid cq;have c6:=Lib.hid (⟨U,b2⟩:a.ok∧b.ok);have d9:=Lib.hid (cq.ext.leads g8.out);have cl:=Lib.hid (show lv+1<X.n by have:=cq.ext.n;have:=bw.out;omega);have c':=nI t.out.a5.wf t.out.a5.b0 (fun id r N=>t.out.a5.b1 N) (f:=f) (e:=hi) (l:=lv+1);have c':=Lib.hid c';clear cq e5 U b2;have a4:=t.out.a5.lt;have O:=Lib.hid a4;have bg:=fun(s:World) (S:aa wc s)=>lH (t.out.a5.U S) f hi (lv+1) c8.out.2;rw[me bs.out]at bg;obtain⟨E,em⟩:∃z,z=bN X (af X f hi (lv+1)):=⟨_,rfl⟩;obtain⟨c,eu⟩:∃z,z=bK X (af X f hi (lv+1)):=⟨_,rfl⟩;obtain⟨d,ev⟩:∃z,z=bf X f (af X f hi (lv+1)):=⟨_,rfl⟩;obtain⟨ee,eR⟩:∃z,z=bQ X (af X f hi (lv+1)):=⟨_,rfl⟩;rw[←em,←eu,←ev,←eR]at bg;have a1:=Lib.hid (fun(s:World) (S:aa wc s)=>gz O.out (Nat.le_refl _) (bg s S));have c3:=Lib.hid em;have ci:=Lib.hid eR;have d6:=Lib.hid eu;have d8:=Lib.hid ev;clear bg a4 em eR eu ev;have e7:wc.heap.size≠wb:=(by omega);have hl:wc.heap.size+1≠wb:=(by omega);have T:wc.heap.size≠(w.heap.size+1):=(by omega);have hm:wc.heap.size+1≠(w.heap.size+1):=(by omega);have cf:wc.heap.size≠w.heap.size:=(by omega);have N:wc.heap.size+1≠w.heap.size:=(by omega);go_wp2_with fail
   go_cut [15,16,14] (fun N U cb cd=>∃bb be d2,N=.pointer (some ⟨bb,0,none⟩)∧U=.pointer (some ⟨be,0,none⟩)∧cb=.int .u8 ee∧fE d1 wc cd sb E bb be c d d2)
   case first=>
    go_region_held3 (fun q=>q.cell? ⟨wb,0,none⟩=some (.pointer (some ⟨sb,0,none⟩))∧q.cell? ⟨(w.heap.size+1),0,none⟩=some (.int .u8 hi.tag)∧q.cell? ⟨(w.heap.size+1),1,none⟩=some (.int .u32 hi.to)) (go_keep) ((go_at_call 258;refine(a1.out _ (by(exact kp))).mono ?_;rintro c9 I ⟨⟨rfl,A,b1⟩,a3,e1,b3,b5,b6⟩;have a6:=A.size;(try simp only[World.size_alloc,World.a3,World.cD]at a6);have fl:=A.cellAt (b:=wb) (o:=0) (v:=.pointer (some ⟨sb,0,none⟩)) Y (by go_keep);have fp:=A.cellAt (b:=(w.heap.size+1)) (o:=0) (v:=.int .u8 hi.tag) ca (by go_keep);have fs:=A.cellAt (b:=(w.heap.size+1)) (o:=1) (v:=.int .u32 hi.to) ca (by go_keep);have fa:I.heap.size≠wb:=(by omega);have hp:I.heap.size+1≠wb:=(by omega);have fb:I.heap.size≠(w.heap.size+1):=(by omega);have hq:I.heap.size+1≠(w.heap.size+1):=(by omega);have g0:I.heap.size≠w.heap.size:=(by omega);have N:I.heap.size+1≠w.heap.size:=(by omega)))
    all_goals(try go_wp2_with fail)
    all_goals go_meet
    all_goals refine⟨_,_,_,rfl,rfl,rfl,iJ O.out (by(exact kp)) A b1 ?_ ?_ ?_ ?_ ?_ ?_ ?_⟩
    all_goals(try(simp[go_sem];done))
    all_goals(try(simp only[World.size_alloc,World.a3,World.size_setCell];omega))
    all_goals(try(repeat (first|with_reducible exact ae.refl _ _|with_reducible refine ae.alloc ?_ _|with_reducible refine ae.drew ?_|refine ae.setCell ?_ (Or.inl (Or.inl rfl)) _|refine ae.setCell ?_ (Or.inl (Or.inr rfl)) _)))
    all_goals(try(simp[go_sem,a3,b3,b5,b6];done))
    all_goals
     have ft:I.cell? ⟨wc.heap.size,0,none⟩=some (.int .u8 0):=(a3 _ _ (Nat.le_refl _) (by simp only[World.size_alloc,World.a3];omega)).trans ((World.cell?_alloc_lt _ _ _ (by simp)).trans (by simp[go_sem]))
     have fv:I.cell? ⟨wc.heap.size,1,none⟩=some (.int .u32 0):=(a3 _ _ (Nat.le_refl _) (by simp only[World.size_alloc,World.a3];omega)).trans ((World.cell?_alloc_lt _ _ _ (by simp)).trans (by simp[go_sem]))
     simp[go_sem,ft,fv]
   case rest=>
    obtain⟨bb,be,d2,rfl,rfl,rfl,j⟩:=hcut;replace bx:=j.av.cellAt Y bx;replace Z:=j.av.cellAt K Z;replace ab:=j.av.cellAt K ab;replace ad:=j.av.cellAt L ad;replace am:=j.av.cellAt L am;replace ds:=j.av.cellAt b8 ds;replace fg:=j.av.cellAt b8 fg;replace cg:=j.av.cellAt a7 cg;replace cS:=j.av.cellAt a7 cS;replace bn:=fun o:Nat=>j.av.frozen (a:=⟨(w.heap.size+1+1),o,none⟩) (by show(w.heap.size+1+1)<_;omega) K (bn o);replace bp:=fun o:Nat=>j.av.frozen (a:=⟨(w.heap.size+1+1+1),o,none⟩) (by show(w.heap.size+1+1+1)<_;omega) L (bp o);have a6:=j.av.size;have g1:=j.a0;have dB:=j.c0;have hr:=j.a1;have fi:=j.c1;have hg:=aD g1;have hh:=aD dB;dsimp only at hg hh;have e9:=j.nB;have b9:=j.nC;have N:=j.gB;have N:=j.gC;have N:w.heap.size+4≤bb:=(by omega);have N:w.heap.size+4≤be:=(by omega);replace L:=j.no L (by omega);replace K:=j.no K (by omega);replace b8:=j.no b8 (by omega);replace a7:=j.no a7 (by omega);replace Y:=j.no Y (by omega);have t:=Lib.hid (t.out.box j);replace dr:w.heap.size+4≤wc.heap.size:=(by omega);clear j a1 O dk dl ca;by_cases f6:ee=0
    case neg=>
     obtain⟨cx,cy,cD⟩:=k8 cn.out.wf d9.out cl.out (ci.out ▸ f6);obtain rfl:ee=6:=ci.out.trans cx;have a2:E=X:=c3.out.trans cy;have bt:=fun(q:World) (b7:ae (fun aw=>aw=w.heap.size+1+1∨aw=w.heap.size+1+1+1) wc q)=>lN (lv:=lv) (f:=f) (M:=M) (lo:=lo) (hi:=hi) t.out (by rw[a2];exact W.out.le (by decide)) (by rw[a2];exact cD) b7 K L;have cj:=Lib.hid bt;clear bt;go_wp2_with fail
     refine bodyPost_ret (v:=.tuple #[.agg #[.int .u8 (⟨0,0⟩:Edge).tag,.int .u32 (⟨0,0⟩:Edge).to],.agg #[.int .u8 (⟨0,0⟩:Edge).tag,.int .u32 (⟨0,0⟩:Edge).to],.int .u8 6]) (by simp[results,Tryz.results265,go_sem,Z,ab,ad,am]) rfl (cj.out _ ?_)
     (repeat (first|with_reducible exact ae.refl _ _|refine cE (Or.inl rfl) ?_ _ _|refine cE (Or.inr rfl) ?_ _ _|with_reducible refine ae.alloc ?_ _|with_reducible refine ae.drew ?_))
    case pos=>
     subst f6;have ce:=fB cn.out.wf d9.out cl.out ci.out.symm;have e6:=iA cn.out.wf d9.out cl.out ci.out.symm;obtain⟨N,U⟩:=c'.out c8.out.2 (by omega) cl.out;rw[←d6.out]at N;rw[←d8.out]at U;have c7:=Lib.hid (⟨N,U⟩:c.ok∧d.ok);rw[←c3.out]at e6;rw[←c3.out,←d6.out,←d8.out]at ce;have W:=Lib.hid ((W.out.trans e6).le (show(1:Int)+1≤2 by decide));have eb:=Lib.hid ce;have av:lv+1<E.n:=(by have:=ce.ext.n;have:=cl.out;omega);have f0:=Lib.hid av;have g4:=Lib.hid (ce.ext.leads cn.out.cl);have g5:=Lib.hid (ce.ext.leads cn.out.ch);clear ce e6 av c' N U;have a4:=t.out.a5.lt;have O:=Lib.hid a4;have e2:(aE f E (aj f E (lv+1) a c)).ok:=kH t.out.a5.wf t.out.a5.b0 c6.out.1 c7.out.1 (by omega) (by have:=bw.out;have:=W.out.ext.n;omega) bs.out;have a5:=fun(s:World) (S:aa wc s)=>jX (t.out.a5.U S) f (lv+1) a c c6.out.1 c7.out.1;rw[kt bs.out]at a5;change ∀s,aa wc s→Calls _ _ _ s fun r q=>r=.returned (.tuple #[.agg #[.int .u8 (aE f E (aj f E (lv+1) a c)).tag,.int .u32 (aE f E (aj f E (lv+1) a c)).to],.int .u8 (bS E (aj f E (lv+1) a c))])∧ae _ s q∧ag (ao _ s q) q sb (aM E (aj f E (lv+1) a c))at a5;obtain⟨J,en⟩:∃z,z=aM E (aj f E (lv+1) a c):=⟨_,rfl⟩;obtain⟨x,da⟩:∃z,z=aE f E (aj f E (lv+1) a c):=⟨_,rfl⟩;obtain⟨eg,eS⟩:∃z,z=bS E (aj f E (lv+1) a c):=⟨_,rfl⟩;rw[←en,←da,←eS]at a5;rw[←da]at e2;have a1:=Lib.hid (fun(s:World) (S:aa wc s)=>gz O.out (Nat.le_refl _) (a5 s S));have c4:=Lib.hid en;have c1:=Lib.hid eS;have fx:=Lib.hid da;have f1:=Lib.hid e2;clear a5 a4 en eS da e2;have e7:wc.heap.size≠wb:=(by omega);have T:wc.heap.size≠a8:=(by omega);have cf:wc.heap.size≠bb:=(by omega);have gu:wc.heap.size≠w.heap.size:=(by omega);go_wp2_with fail
     go_cut [17,14] (fun N cb cd=>∃bq d3,N=.pointer (some ⟨bq,0,none⟩)∧cb=.int .u8 eg∧fE d2 wc cd sb J bq bq x x d3)
     case first=>
      go_region_held3 (fun q=>q.cell? ⟨wb,0,none⟩=some (.pointer (some ⟨sb,0,none⟩))∧q.cell? ⟨a8,0,none⟩=some (.int .u8 a.tag)∧q.cell? ⟨a8,1,none⟩=some (.int .u32 a.to)∧q.cell? ⟨bb,0,none⟩=some (.int .u8 c.tag)∧q.cell? ⟨bb,1,none⟩=some (.int .u32 c.to)) (go_keep) ((go_at_call 71;refine(a1.out _ (by(exact kp))).mono ?_;rintro c9 I ⟨⟨rfl,A,b1⟩,a3,e1,b3,b5,b6⟩;have a6:=A.size;(try simp only[World.size_alloc,World.a3,World.cD]at a6);have fl:=A.cellAt (b:=wb) (o:=0) (v:=.pointer (some ⟨sb,0,none⟩)) Y (by go_keep);have fp:=A.cellAt (b:=a8) (o:=0) (v:=.int .u8 a.tag) b8 (by go_keep);have fs:=A.cellAt (b:=a8) (o:=1) (v:=.int .u32 a.to) b8 (by go_keep);have ht:=A.cellAt (b:=bb) (o:=0) (v:=.int .u8 c.tag) e9 (by go_keep);have hu:=A.cellAt (b:=bb) (o:=1) (v:=.int .u32 c.to) e9 (by go_keep);have fa:I.heap.size≠wb:=(by omega);have fb:I.heap.size≠a8:=(by omega);have g0:I.heap.size≠bb:=(by omega);have ho:I.heap.size≠w.heap.size:=(by omega)))
      all_goals(try go_wp2_with fail)
      all_goals go_meet
      all_goals refine⟨_,_,rfl,rfl,iJ O.out (by(exact kp)) A b1 ?_ ?_ ?_ ?_ ?_ ?_ ?_⟩
      all_goals(try(simp[go_sem];done))
      all_goals(try(simp only[World.size_alloc,World.a3,World.size_setCell];omega))
      all_goals(try(repeat (first|with_reducible exact ae.refl _ _|with_reducible refine ae.alloc ?_ _|with_reducible refine ae.drew ?_|refine ae.setCell ?_ (Or.inl (Or.inl rfl)) _|refine ae.setCell ?_ (Or.inl (Or.inr rfl)) _)))
      all_goals(simp[go_sem,a3,b3,b5,b6];done)
     case rest=>
      obtain⟨bq,d3,rfl,rfl,j⟩:=hcut;replace bx:=j.av.cellAt Y bx;replace Z:=j.av.cellAt K Z;replace ab:=j.av.cellAt K ab;replace ad:=j.av.cellAt L ad;replace am:=j.av.cellAt L am;replace cg:=j.av.cellAt a7 cg;replace cS:=j.av.cellAt a7 cS;replace dB:=j.av.cellAt b9 dB;replace fi:=j.av.cellAt b9 fi;replace bn:=fun o:Nat=>j.av.frozen (a:=⟨(w.heap.size+1+1),o,none⟩) (by show(w.heap.size+1+1)<_;omega) K (bn o);replace bp:=fun o:Nat=>j.av.frozen (a:=⟨(w.heap.size+1+1+1),o,none⟩) (by show(w.heap.size+1+1+1)<_;omega) L (bp o);have a6:=j.av.size;have d0:=j.a0;have fj:=j.a1;have hj:=aD d0;dsimp only at hj;have dj:=j.nB;have N:=j.gB;have N:w.heap.size+4≤bq:=(by omega);replace L:=j.no L (by omega);replace K:=j.no K (by omega);replace a7:=j.no a7 (by omega);replace b9:=j.no b9 (by omega);replace Y:=j.no Y (by omega);have t:=Lib.hid (t.out.box j);replace dr:w.heap.size+4≤wc.heap.size:=(by omega);clear j a1 O ds fg g1 hr b8 e9;have b4:=iO eb.out.wf bs.out (l:=lv+1) (by omega) f0.out g4.out eb.out.cl;by_cases f7:eg=0
      case neg=>
       obtain⟨cx,cy,cD⟩:eg=6∧J=E∧E.room≤E.len:=by
        rcases b4 with⟨T,_⟩|⟨T,cf,_,e8⟩
        ·exact absurd (c1.out.trans T) f7
        ·exact⟨c1.out.trans T,c4.out.trans cf,e8⟩
       subst cx;have a2:=cy;clear b4;have bt:=fun(q:World) (b7:ae (fun aw=>aw=w.heap.size+1+1∨aw=w.heap.size+1+1+1) wc q)=>lN (lv:=lv) (f:=f) (M:=M) (lo:=lo) (hi:=hi) t.out (by rw[a2];exact W.out.le (by decide)) (by rw[a2];exact cD) b7 K L;have cj:=Lib.hid bt;clear bt;go_wp2_with fail
       refine bodyPost_ret (v:=.tuple #[.agg #[.int .u8 (⟨0,0⟩:Edge).tag,.int .u32 (⟨0,0⟩:Edge).to],.agg #[.int .u8 (⟨0,0⟩:Edge).tag,.int .u32 (⟨0,0⟩:Edge).to],.int .u8 6]) (by simp[results,Tryz.results265,go_sem,Z,ab,ad,am]) rfl (cj.out _ ?_)
       (repeat (first|with_reducible exact ae.refl _ _|refine cE (Or.inl rfl) ?_ _ _|refine cE (Or.inr rfl) ?_ _ _|with_reducible refine ae.alloc ?_ _|with_reducible refine ae.drew ?_))
      case pos=>
       subst f7
       have bi:gX f E (lv+1) a c J x:=by
        rcases b4 with⟨T,bv⟩|⟨T,_⟩
        ·rw[←c4.out,←fx.out]at bv;exact bv
        ·have:=c1.out.trans T;cases this
       have N:bR E J 1:=⟨bi.ext,bi.wf,bi.room,bi.len,fun e4=>by rw[c4.out];exact kX e4 _⟩;have W:=Lib.hid ((W.out.trans N).le (show(2:Int)+1≤3 by decide));have g9:=Lib.hid bi;have g3:=Lib.hid (show lv+1<J.n by have:=bi.ext.n;have:=f0.out;omega);have g6:=Lib.hid (bi.ext.leads g5.out);have g7:=Lib.hid (bi.ext.leads eb.out.ch);clear b4 bi N;have a4:=t.out.a5.lt;have O:=Lib.hid a4;have e3:(aE f J (aj f J (lv+1) b d)).ok:=kH t.out.a5.wf t.out.a5.b0 c6.out.2 c7.out.2 (by omega) (by have:=bw.out;have:=W.out.ext.n;omega) bs.out;have a5:=fun(s:World) (S:aa wc s)=>jX (t.out.a5.U S) f (lv+1) b d c6.out.2 c7.out.2;rw[kt bs.out]at a5;change ∀s,aa wc s→Calls _ _ _ s fun r q=>r=.returned (.tuple #[.agg #[.int .u8 (aE f J (aj f J (lv+1) b d)).tag,.int .u32 (aE f J (aj f J (lv+1) b d)).to],.int .u8 (bS J (aj f J (lv+1) b d))])∧ae _ s q∧ag (ao _ s q) q sb (aM J (aj f J (lv+1) b d))at a5;obtain⟨co,ep⟩:∃z,z=aM J (aj f J (lv+1) b d):=⟨_,rfl⟩;obtain⟨y,db⟩:∃z,z=aE f J (aj f J (lv+1) b d):=⟨_,rfl⟩;obtain⟨b0,e0⟩:∃z,z=bS J (aj f J (lv+1) b d):=⟨_,rfl⟩;rw[←ep,←db,←e0]at a5;rw[←db]at e3;have a1:=Lib.hid (fun(s:World) (S:aa wc s)=>gz O.out (Nat.le_refl _) (a5 s S));have c5:=Lib.hid ep;have fD:=Lib.hid e0;have fz:=Lib.hid db;have f2:=Lib.hid e3;clear a5 a4 ep e0 db e3;have e7:wc.heap.size≠wb:=(by omega);have T:wc.heap.size≠a':=(by omega);have cf:wc.heap.size≠be:=(by omega);have gu:wc.heap.size≠w.heap.size:=(by omega);go_wp2_with fail
       go_cut [18,14] (fun s cb cd=>∃br c0,s=.pointer (some ⟨br,0,none⟩)∧cb=.int .u8 b0∧fE d3 wc cd sb co br br y y c0)
       case first=>
        go_region_held3 (fun q=>q.cell? ⟨wb,0,none⟩=some (.pointer (some ⟨sb,0,none⟩))∧q.cell? ⟨a',0,none⟩=some (.int .u8 b.tag)∧q.cell? ⟨a',1,none⟩=some (.int .u32 b.to)∧q.cell? ⟨be,0,none⟩=some (.int .u8 d.tag)∧q.cell? ⟨be,1,none⟩=some (.int .u32 d.to)) (go_keep) ((go_at_call 71;refine(a1.out _ (by(exact kp))).mono ?_;rintro c9 I ⟨⟨rfl,A,b1⟩,a3,e1,b3,b5,b6⟩;have a6:=A.size;(try simp only[World.size_alloc,World.a3,World.cD]at a6);have fl:=A.cellAt (b:=wb) (o:=0) (v:=.pointer (some ⟨sb,0,none⟩)) Y (by go_keep);have fp:=A.cellAt (b:=a') (o:=0) (v:=.int .u8 b.tag) a7 (by go_keep);have fs:=A.cellAt (b:=a') (o:=1) (v:=.int .u32 b.to) a7 (by go_keep);have ht:=A.cellAt (b:=be) (o:=0) (v:=.int .u8 d.tag) b9 (by go_keep);have hu:=A.cellAt (b:=be) (o:=1) (v:=.int .u32 d.to) b9 (by go_keep);have fa:I.heap.size≠wb:=(by omega);have fb:I.heap.size≠a':=(by omega);have g0:I.heap.size≠be:=(by omega);have ho:I.heap.size≠w.heap.size:=(by omega)))
        all_goals(try go_wp2_with fail)
        all_goals go_meet
        all_goals refine⟨_,_,rfl,rfl,iJ O.out (by(exact kp)) A b1 ?_ ?_ ?_ ?_ ?_ ?_ ?_⟩
        all_goals(try(simp[go_sem];done))
        all_goals(try(simp only[World.size_alloc,World.a3,World.size_setCell];omega))
        all_goals(try(repeat (first|with_reducible exact ae.refl _ _|with_reducible refine ae.alloc ?_ _|with_reducible refine ae.drew ?_|refine ae.setCell ?_ (Or.inl (Or.inl rfl)) _|refine ae.setCell ?_ (Or.inl (Or.inr rfl)) _)))
        all_goals(simp[go_sem,a3,b3,b5,b6];done)
       case rest=>
        obtain⟨br,c0,rfl,rfl,j⟩:=hcut;replace Z:=j.av.cellAt K Z;replace ab:=j.av.cellAt K ab;replace ad:=j.av.cellAt L ad;replace am:=j.av.cellAt L am;replace d0:=j.av.cellAt dj d0;replace fj:=j.av.cellAt dj fj;replace bn:=fun o:Nat=>j.av.frozen (a:=⟨(w.heap.size+1+1),o,none⟩) (by show(w.heap.size+1+1)<_;omega) K (bn o);replace bp:=fun o:Nat=>j.av.frozen (a:=⟨(w.heap.size+1+1+1),o,none⟩) (by show(w.heap.size+1+1+1)<_;omega) L (bp o);have a6:=j.av.size;have g2:=j.a0;have hs:=j.a1;have hk:=aD g2;dsimp only at hk;have s:=j.nB;have s:=j.gB;have s:w.heap.size+4≤br:=(by omega);replace L:=j.no L (by omega);replace K:=j.no K (by omega);replace dj:=j.no dj (by omega);have t:=Lib.hid (t.out.box j);replace dr:w.heap.size+4≤wc.heap.size:=(by omega);have b4:=iO g9.out.wf bs.out (l:=lv+1) (by omega) g3.out g6.out g7.out
        have gb:∀q:World,ae (fun aw=>aw=w.heap.size+1+1∨aw=w.heap.size+1+1+1) wc q→ll F w sb lv f M lo hi (.returned (.tuple #[.agg #[.int .u8 x.tag,.int .u32 x.to],.agg #[.int .u8 y.tag,.int .u32 y.to],.int .u8 b0])) q:=fun q b7=>by
         have gc:=t.out.out b7 K L;rcases b4 with⟨T,bv⟩|⟨T,cf,gu,e8⟩
         ·have cp:b0=0:=fD.out.trans T;rw[←c5.out,←fz.out]at bv;have hc:bR J co 1:=⟨bv.ext,bv.wf,bv.room,bv.len,fun e4=>by rw[c5.out];exact kX e4 _⟩;refine⟨co,x,y,b0,c0,rfl,f1.out,f2.out,.inl cp,gc,(W.out.trans hc).le (show(3:Int)+1≤4 by decide),fun f4=>(by rw[cp]at f4;cases f4),fun _=>?_⟩;exact⟨X,E,J,a,b,c,d,ch.out.symm,c2.out,d5.out,d7.out,ci.out.symm,c3.out,d6.out,d8.out,c1.out.symm,c4.out,fx.out,T,c5.out,fz.out⟩
         ·have cp:b0=6:=fD.out.trans T;have a2:co=J:=c5.out.trans cf;refine⟨co,x,y,b0,c0,rfl,f1.out,f2.out,.inr cp,gc,by rw[a2];exact W.out.le (by decide),fun _=>by rw[a2];exact e8,fun ek=>(by rw[cp]at ek;cases ek)⟩
        have g':=Lib.hid gb;clear b4 gb j a1 O cg cS dB fi a7 b9;go_wp2_with fail
        have j:(w.heap.size+1+1==bq)=false:=(by simp;omega);have c9:(w.heap.size+1+1+1==br)=false:=(by simp;omega);have j:w.heap.size+1+1≠bq:=(by omega);have j:w.heap.size+1+1≠br:=(by omega);have j:w.heap.size+1+1+1≠bq:=(by omega);have j:w.heap.size+1+1+1≠br:=(by omega);go_region
        go_wp2_with fail
        refine bodyPost_ret (v:=.tuple #[.agg #[.int .u8 x.tag,.int .u32 x.to],.agg #[.int .u8 y.tag,.int .u32 y.to],.int .u8 b0]) (by simp[results,Tryz.results265,go_sem,Z,ab,ad,am,d0,fj,g2,hs]) rfl (g'.out _ ?_)
        (repeat (first|with_reducible exact ae.refl _ _|refine cE (Or.inl rfl) ?_ _ _|refine cE (Or.inr rfl) ?_ _ _|with_reducible refine ae.alloc ?_ _|with_reducible refine ae.drew ?_|with_reducible refine ae.drewN ?_ _))

end Go.Proofs.YtafkamlhimkbmaaGreat
