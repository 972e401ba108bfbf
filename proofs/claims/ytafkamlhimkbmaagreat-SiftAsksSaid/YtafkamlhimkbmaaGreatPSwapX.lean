/-
  swap: the map from edges of forms at levels to edges: its keys, what it holds.
-/
import Derived.Test.YtafkamlhimkbmaaGreatPSwapP
namespace Go.Proofs.YtafkamlhimkbmaaGreat
set_option maxRecDepth 1000000
set_option maxHeartbeats 8000000
set_option linter.unusedSimpArgs false
set_option linter.unusedVariables false
open Go.RowKit
theorem B6:(309:TypeId)<Tryz.prog.types.size:=of_decide_eq_true (by kernel_rfl)
theorem Ei:(match Tryz.prog.underlying 309 with|some (.array _ _)|some (.struct _)=>true|_=>false)=true:=by rw[Tryz.underlying309]
theorem oK:Go.Maps.Keyed Tryz.prog 309:=Go.Maps.Keyed.of_law (deep_law_laid ze (m:=3) (by omega) B6 (by kernel_rfl) Ei)
def jJ (f:Int)(e:Edge)(l:Int):Value:=.agg #[.int .u8 f,.int .u8 e.tag,.int .u32 e.to,.int .i64 l]
noncomputable def dZ (f:Int)(e:Edge)(l:Int):Lit:=.string (keyBytes [.int .u8 f,.int .u8 e.tag,.int .u32 e.to,.int .i64 l])
theorem mm (f:Int)(e:Edge)(l:Int)(X:1≤f∧f≤5)(j:e.ok)(U:0≤l)(W:l≤16):keyOf Tryz.prog 309 (jJ f e l)=some (dZ f e l):=by
 obtain⟨d,J⟩:=DY;have s:IntKind.u8.min=0:=rfl;have q:IntKind.u8.max=255:=rfl;have N:IntKind.u32.min=0:=rfl;have L:IntKind.u32.max=4294967295:=rfl;have w0:(Lit.int .u8 f).wf=true:=by simp only[Lit.wf,bT,bC,s,q];omega
 have w1:(Lit.int .u8 e.tag).wf=true:=by simp only[Lit.wf,bT,bC,s,q];exact j.1
 have S:(Lit.int .u32 e.to).wf=true:=by simp only[Lit.wf,bT,bC,N,L];exact j.2
 have T:(Lit.int .i64 l).wf=true:=WalkArith.wf_i64 (by omega);have O:Tryz.prog.keyType 309=true:=by kernel_rfl
 have t:Tryz.prog.cellsOf 309=4:=by kernel_rfl
 have z:Tryz.prog.cellsOf 52=2:=by kernel_rfl
 have A:Tryz.prog.cellsOf 3=1:=by kernel_rfl
 have B:Tryz.prog.cellsOf 5=1:=by kernel_rfl
 have E:Tryz.prog.cellsOf 50=1:=by kernel_rfl
 have I:Tryz.prog.cellsOf 53=1:=by kernel_rfl
 unfold keyOf jJ dZ;rw[Tryz.underlying309];simp only[O,J];simp[Value.formed,Value.cells,Tryz.underlying309,t,Program.keyLits,Tryz.underlying52,Tryz.underlying53,Tryz.underlying3,Tryz.underlying5,Tryz.underlying50,z,A,B,E,I,w0,w1,S,T]
 rw[ah (fun i hi=>by
  rcases i with _|_|i;·exact of_decide_eq_false rfl
  ·exact of_decide_eq_false rfl
  ·omega)]
 rfl
theorem tI {f q:Int}{e j:Edge}{l l':Int}(I:1≤f∧f≤5)(J:1≤q∧q≤5)(B:e.ok)(E:j.ok)(s:0≤l)(z:l≤16)(t:0≤l')(A:l'≤16)(h:dZ f e l=dZ q j l'):f=q∧e=j∧l=l':=by
 have L:=mm f e l I B s z;have s:=mm q j l' J E t A;rw[←h]at s;have:=oK.inj L s;unfold jJ at this;cases e;cases j;simp at this;obtain⟨a,b,c,d⟩:=this;subst a b c d;exact⟨rfl,rfl,rfl⟩
theorem tJ (f:Int)(e:Edge)(l:Int):WideAt.IsKeyLit (dZ f e l):=True.intro
structure gp (lv:Int)(M:St)(V:List (Int×Edge×Int))(D:DataW Unit):Prop where
 isMap:Go.Maps.IsMap D
 b0:∀p∈V,(1≤p.1∧p.1≤5)∧p.2.1.ok∧0≤p.2.2∧p.2.2≤16∧M.leads p.1 p.2.1 p.2.2=true
 gx:∀f e l,1≤f∧f≤5→e.ok→0≤l→l≤16→(Go.Maps.has D (dZ f e l)=true↔(f,e,l)∈V)
 c5:∀p∈V,∃x,D.atKey (dZ p.1 p.2.1 p.2.2) (eV ⟨0,0⟩)=eV x∧gn lv p.1 M p.2.1 p.2.2 x
theorem gp.empty (lv:Int)(M:St):gp lv M [] (.map []):=by
 refine⟨Go.Maps.isMap_empty,fun p h=>by simp at h,fun f e l _ _ _ _=>?_,fun p h=>by simp at h⟩;simp[Go.Maps.has_eq]
theorem gp.ext {lv:Int}{M M':St}{V:List (Int×Edge×Int)}{D:DataW Unit}(h:gp lv M V D)(q:aD M M')(s:M.wf):gp lv M' V D:=
 ⟨h.isMap,fun p j=>by obtain⟨a,b,c,d,e⟩:=h.b0 p j;exact⟨a,b,c,d,q.leads e⟩,h.gx,fun p j=>by
  obtain⟨x,a,b⟩:=h.c5 p j
  exact⟨x,a,b.ext q s (h.b0 p j).2.2.2.2⟩⟩
theorem gp.put {lv f:Int}{M:St}{V:List (Int×Edge×Int)}{D:DataW Unit}(h:gp lv M V D){e x:Edge}{l:Int}(A:1≤f∧f≤5)(z:e.ok)(s:0≤l)(t:l≤16)(S:M.leads f e l=true)(hp:(f,e,l)∉V)(T:gn lv f M e l x) :
  gp lv M (V++[(f,e,l)]) (D.put (dZ f e l) (eV x)):=by
 refine⟨h.isMap.put _ _,fun p hp=>?_,fun E B l' N L I J=>?_,fun p j=>?_⟩
 ·rcases List.mem_append.1 hp with hp|hp;·exact h.b0 p hp
  ·rw[cF]at hp;subst hp;exact⟨A,z,s,t,S⟩
 ·by_cases q:dZ E B l'=dZ f e l
  ·obtain⟨rfl,rfl,rfl⟩:=tI N A L z I J s t q;rw[Go.Maps.has_put_same h.isMap (tJ _ _ _)];simp
  ·rw[Go.Maps.has_put_other q,h.gx E B l' N L I J,List.mem_append,cF];constructor;·exact .inl
   ·rintro(a|a);·exact a
    ·cases a;exact absurd rfl q
 ·rcases List.mem_append.1 j with j|j
  ·obtain⟨U,a,b,c,d⟩:=h.b0 p j
   have q:dZ p.1 p.2.1 p.2.2≠dZ f e l:=fun O=>by
    obtain⟨B,E,I⟩:=tI U A a z b c s t O;exact hp (by rw[←B,←E,←I];exact j)
   obtain⟨y,s,t⟩:=h.c5 p j;exact⟨y,by rw[Go.Maps.atKey_put_other q];exact s,t⟩
  ·rw[cF]at j;subst j;exact⟨x,Go.Maps.atKey_put_same h.isMap (tJ _ _ _) _ _,T⟩
theorem gp.none {lv f:Int}{M:St}{V:List (Int×Edge×Int)}{D:DataW Unit}(h:gp lv M V D){e:Edge}{l:Int}(A:1≤f∧f≤5)(z:e.ok)(q:0≤l)(s:l≤16)(B:(f,e,l)∉V):Go.Maps.has D (dZ f e l)=false∧D.atKey (dZ f e l) (eV ⟨0,0⟩)=eV ⟨0,0⟩:=by
 have j:Go.Maps.has D (dZ f e l)=false:=by
  cases t:Go.Maps.has D (dZ f e l)with
  |false=>rfl
  |true=>exact absurd ((h.gx f e l A z q s).1 t) B
 exact⟨j,Go.Maps.atKey_of_not_has j _⟩
structure bX (F:Nat→Prop)(W:World)(sb wb b:Nat)(lv:Int)(M:St)(V:List (Int×Edge×Int))(D:DataW Unit):Prop where
 a8:ak F W sb M
 c0:W.cell? ⟨wb,0,none⟩=some (.pointer (some ⟨sb,0,none⟩))
 c1:W.cell? ⟨wb,1,none⟩=some (.int .i64 lv)
 c2:W.cell? ⟨wb,2,none⟩=some (.map (some b))
 nF:¬F b
 nW:¬F wb
 own:W.ownsMap Tryz.prog 309 iZ b V.length D
 dr:gp lv M V D
theorem bX.block {F:Nat→Prop}{j:World}{sb wb b:Nat}{lv:Int}{M:St}{V:List (Int×Edge×Int)}{D:DataW Unit}(h:bX F j sb wb b lv M V D):∃es clock,j.heap[b]?=some (.map es clock):=by
 obtain⟨es,clock,j,_⟩:=h.own;exact⟨es,clock,j⟩
theorem bX.cE {F:Nat→Prop}{j:World}{sb wb b:Nat}{lv:Int}{M:St}{V:List (Int×Edge×Int)}{D:DataW Unit}(h:bX F j sb wb b lv M V D){k o:Nat}{v:Value}(s:j.cell? ⟨k,o,none⟩=some v):k≠b:=by
 obtain⟨es,clock,q⟩:=h.block;intro e;subst e;simp[World.cell?,q]at s
theorem bX.lt {F:Nat→Prop}{j:World}{sb wb b:Nat}{lv:Int}{M:St}{V:List (Int×Edge×Int)}{D:DataW Unit}(h:bX F j sb wb b lv M V D):b<j.heap.size∧wb<j.heap.size:=by
 obtain⟨es,clock,j⟩:=h.block;exact⟨(Array.getElem?_eq_some_iff.1 j).1,aB h.c0⟩
theorem jE {j W':World}{b n:Nat}{D:DataW Unit}(h:j.ownsMap Tryz.prog 309 iZ b n D)(q:W'.heap[b]?=j.heap[b]?):W'.ownsMap Tryz.prog 309 iZ b n D:=by
 obtain⟨es,clock,j,r⟩:=h;exact⟨es,clock,by rw[q];exact j,r⟩
theorem bX.ad {F:Nat→Prop}{q W':World}{sb wb b:Nat}{lv:Int}{M:St}{V:List (Int×Edge×Int)}{D:DataW Unit}(h:bX F q sb wb b lv M V D)(j:ae q W'):bX F W' sb wb b lv M V D:=
 ⟨h.a8.ad j,j.cell h.c0,j.cell h.c1,j.cell h.c2,h.nF,h.nW,jE h.own (j.block b h.lt.1),h.dr⟩
theorem bX.store {F F':Nat→Prop}{s W':World}{sb wb b:Nat}{lv:Int}{M M':St}{V:List (Int×Edge×Int)}{D:DataW Unit}(h:bX F s sb wb b lv M V D)(j:af F s W')(B:ak F' W' sb M')(hF:∀z,F' z→F z∨s.heap.size≤z)(A:aD M M'):bX F' W' sb wb b lv M' V D:=by
 obtain⟨E,s⟩:=h.lt;have I:¬F' b:=fun t=>by rcases hF _ t with q|q;exact h.nF q;omega
 have J:¬F' wb:=fun t=>by rcases hF _ t with q|q;exact h.nW q;omega
 exact⟨B,j.cellAt h.nW h.c0,j.cellAt h.nW h.c1,j.cellAt h.nW h.c2,I,J,jE h.own (j.block b E h.nF),h.dr.ext A h.a8.wf⟩
theorem bX.fi {F:Nat→Prop}{q:World}{sb wb b:Nat}{lv f:Int}{M:St}{V:List (Int×Edge×Int)}{D:DataW Unit}(h:bX F q sb wb b lv M V D){e:Edge}{l:Int}(A:1≤f∧f≤5)(z:e.ok)(s:0≤l)(t:l≤16) :
  ∃x,D.atKey (dZ f e l) (eV ⟨0,0⟩)=eV x∧∀W',W'.heap[b]?=q.heap[b]?→(Instr.lookup 304 (.map (some b)) (jJ f e l) true).run Tryz.prog W'=.ok (.tuple #[.agg #[.int .u8 x.tag,.int .u32 x.to],.bool (Go.Maps.has D (dZ f e l))]) W':=by
 have j:∃x,D.atKey (dZ f e l) (eV ⟨0,0⟩)=eV x:=by
  by_cases B:(f,e,l)∈V
  ·obtain⟨x,a,_⟩:=h.dr.c5 _ B;exact⟨x,a⟩
  ·exact⟨_,(h.dr.none A z s t B).2⟩
 obtain⟨x,j⟩:=j
 refine⟨x,j,fun W' E=>?_⟩
 obtain⟨v,ps,B,q⟩:=(jE h.own E).look_ok oK Tryz.underlying304 (Et W') (qL ⟨0,0⟩) (mm f e l A z s t)
 rw[j]at q
 rw[B,xz q]
theorem bX.put {F:Nat→Prop}{q W':World}{sb wb b:Nat}{lv f:Int}{M:St}{V:List (Int×Edge×Int)}{D:DataW Unit}(h:bX F q sb wb b lv M V D){e x:Edge}{l:Int}(j:af (fun k=>k=b) q W')(I:W'.ownsMap Tryz.prog 309 iZ b (V.length+1) (D.put (dZ f e l) (eV x)))
  (A:1≤f∧f≤5) (z:e.ok) (s:0≤l) (t:l≤16) (E:M.leads f e l=true) (J:(f,e,l)∉V) (L:gn lv f M e l x):bX F W' sb wb b lv M (V++[(f,e,l)]) (D.put (dZ f e l) (eV x)):=by
 refine⟨h.a8.a4 j (fun k B e=>by subst e;exact h.nF B),j.cellAt (h.cE h.c0) h.c0,j.cellAt (h.cE h.c0) h.c1,j.cellAt (h.cE h.c0) h.c2,h.nF,h.nW,?_,h.dr.put A z s t E J L⟩
 rw[di]
 exact I
def iS (F:Nat→Prop)(w:World)(sb wb b:Nat)(lv f:Int)(M:St)(V:List (Int×Edge×Int))(e:Edge)(l:Int)(r:Ending)(w':World):Prop:=
 ∃(M':St) (x:Edge) (q:Int) (F':Nat→Prop),r=.returned (.tuple #[.agg #[.int .u8 x.tag,.int .u32 x.to],.int .u8 q])∧fJ lv f M e l M' x q (ej lv l)∧x.ok∧(q=0∨q=6) ∧
  af (fun j=>F j∨j=b) w w'∧(∀j,F' j→F j∨w.heap.size≤j)∧ak F' w' sb M' ∧
  (q=0→∃j q,bX F' w' sb wb b lv M' j q∧j.length+1≤V.length+2 ^ ((lv-l).toNat+1)∧∀q∈j,q∈V∨l≤q.2.2)
section
variable {F:Nat→Prop}{w:World}{sb wb b:Nat}{lv f:Int}{M:St}{V:List (Int×Edge×Int)}{D:DataW Unit}
theorem vu (h:bX F w sb wb b lv M V D){e x:Edge}{l:Int}(q:gn lv f M e l x){w':World}(j:ae w w') :
  iS F w sb wb b lv f M V e l (.returned (.tuple #[.agg #[.int .u8 x.tag,.int .u32 x.to],.int .u8 0])) w':=
 ⟨M,x,0,F,rfl,⟨(cM.refl h.a8.wf).le (by have:=n8 (lv:=lv) (l:=l);omega),fun _=>q,fun s=>absurd rfl s⟩,q.ok,.inl rfl,ae.av j _,fun z t=>.inl t,h.a8.ad j,fun _=>⟨V,D,h.ad j,Nat.add_le_add_left (eG (by decide)) _,fun s q=>.inl q⟩⟩
theorem nO {e:Edge}{l:Int}{t:St}{q:Nat→Prop}{z w':World}{R:Nat}(I:fJ lv f M e l t ⟨0,0⟩ 6 (ej lv l))(L:af (fun j=>F j∨j=b) w z)(B:∀j,q j→F j∨w.heap.size≤j)(hS:ak q z sb t)
  (A:af (fun j=>j=R) z w') (E:¬q R) (N:w.heap.size≤R):iS F w sb wb b lv f M V e l (.returned (.tuple #[.agg #[.int .u8 (⟨0,0⟩:Edge).tag,.int .u32 (⟨0,0⟩:Edge).to],.int .u8 6])) w':=
 ⟨t,_,6,q,rfl,I,ff,.inr rfl,L.b9 A (fun i hi s=>by omega),B,hS.a4 A (fun k J s=>by subst s;exact E J),fun s=>by cases s⟩
theorem vp {e x:Edge}{l:Int}{B:St}{A:List (Int×Edge×Int)}{L:DataW Unit}{z:Nat→Prop}{J w':World}{R:Nat}(X:fJ lv f M e l B x 0 (ej lv l))(Z:x.ok)(Y:af (fun s=>F s∨s=b) w J)(S:∀s,z s→F s∨w.heap.size≤s)(q:bX z J sb wb b lv B A L)
  (U:A.length+1≤V.length+2 ^ ((lv-l).toNat+1)) (T:∀O∈A,O∈V∨l≤O.2.2)
  (t:af (fun s=>s=R) J w') (N:¬z R) (ab:w.heap.size≤R) (W:R≠b) (I:R≠wb):iS F w sb wb b lv f M V e l (.returned (.tuple #[.agg #[.int .u8 x.tag,.int .u32 x.to],.int .u8 0])) w':=
 ⟨B,_,0,z,rfl,X,Z,.inl rfl,Y.b9 t (fun i hi j=>by omega),S,q.a8.a4 t (fun k E j=>by subst j;exact N E),fun _=>⟨A,L,
  ⟨q.a8.a4 t (fun k E j=>by subst j;exact N E),t.cellAt (fun j=>I j.symm) q.c0,t.cellAt (fun j=>I j.symm) q.c1,t.cellAt (fun j=>I j.symm) q.c2,q.nF,q.nW,jE q.own (t.block b q.lt.1 (fun j=>W j.symm)),q.dr⟩,U,T⟩⟩
end
structure Pg (F:Nat→Prop)(w W:World)(sb:Nat)(F1:Nat→Prop)(M:St):Prop where
 av:af F w W
 a8:ak F1 W sb M
 sub:∀j,F1 j→F j∨w.heap.size≤j
theorem Pg.box {F s t:Nat→Prop}{w z B:World}{sb:Nat}{M M':St}{E C:Nat}{lo hi:Edge}(h:Pg F w z sb s M)(j:gY s z B sb M' E C lo hi t):Pg F w B sb t M':=by
 have s:=h.av.size;refine⟨h.av.b9 j.av (fun i hi I=>?_),j.a8,fun A J=>?_⟩
 ·rcases h.sub i I with q|q;·exact q
  ·omega
 ·rcases j.sub A J with q|q;·exact h.sub A q
  ·exact .inr (by omega)
theorem gY.no {F j:Nat→Prop}{w0 B:World}{sb:Nat}{t:St}{s C:Nat}{lo hi:Edge}(h:gY F w0 B sb t s C lo hi j){k:Nat}(A:¬F k)(E:k<w0.heap.size):¬j k:=fun z=>by
 rcases h.sub k z with q|q;·exact A q
 ·omega
theorem dx {P:Nat→Prop}{R:Nat}(j:P R){x y:World}(h:af P x y)(o:Nat)(v:Value):af P x (y.setCell ⟨R,o,none⟩ v):=h.setCell (Or.inl j) v
def uB (lv f:Int)(q:St)(lo hi:Edge)(z:St)(x y:Edge):Prop:=
 ∃(j s t:St) (a b c d:Edge),cK q (aj q f lo (lv+1))=0∧j=cH q (aj q f lo (lv+1))∧a=cz q (aj q f lo (lv+1))∧b=bL q f (aj q f lo (lv+1)) ∧
  cK j (aj j f hi (lv+1))=0∧s=cH j (aj j f hi (lv+1))∧c=cz j (aj j f hi (lv+1))∧d=bL j f (aj j f hi (lv+1)) ∧
  cV s (ay f s (lv+1) a c)=0∧t=aX s (ay f s (lv+1) a c)∧x=aL f s (ay f s (lv+1) a c) ∧
  cV t (ay f t (lv+1) b d)=0∧z=aX t (ay f t (lv+1) b d)∧y=aL f t (ay f t (lv+1) b d)
def nh (F:Nat→Prop)(w:World)(sb:Nat)(lv f:Int)(M:St)(lo hi:Edge)(r:Ending)(w':World):Prop:=
 ∃(j:St) (x y:Edge) (q:Int) (F':Nat→Prop),r=.returned (.tuple #[.agg #[.int .u8 x.tag,.int .u32 x.to],.agg #[.int .u8 y.tag,.int .u32 y.to],.int .u8 q])∧x.ok∧y.ok∧(q=0∨q=6)∧Pg F w w' sb F' j∧cM M j 4∧(q=6→j.room≤j.len)∧(q=0→uB lv f M lo hi j x y)
theorem Pg.out {F j:Nat→Prop}{w q w':World}{sb:Nat}{M:St}(h:Pg F w q sb j M)(z:af (fun A=>A=w.heap.size+1+1∨A=w.heap.size+1+1+1) q w')(B:¬j (w.heap.size+1+1))(E:¬j (w.heap.size+1+1+1)):Pg F w w' sb j M:=
 ⟨h.av.b9 z (fun i hi s=>by omega),h.a8.a4 z (fun k t s=>by rcases s with rfl|rfl;exact B t;exact E t),h.sub⟩
theorem og {F q:Nat→Prop}{w s w':World}{sb:Nat}{lv f:Int}{M j:St}{lo hi:Edge}(h:Pg F w s sb q j)(E:cM M j 4)(A:j.room≤j.len)(B:af (fun t=>t=w.heap.size+1+1∨t=w.heap.size+1+1+1) s w')(I:¬q (w.heap.size+1+1))(J:¬q (w.heap.size+1+1+1)) :
  nh F w sb lv f M lo hi (.returned (.tuple #[.agg #[.int .u8 (⟨0,0⟩:Edge).tag,.int .u32 (⟨0,0⟩:Edge).to],.agg #[.int .u8 (⟨0,0⟩:Edge).tag,.int .u32 (⟨0,0⟩:Edge).to],.int .u8 6])) w':=
 ⟨j,_,_,6,q,rfl,ff,ff,.inr rfl,h.out B I J,E,fun _=>A,fun z=>by cases z⟩
theorem xb {F:Nat→Prop}{w:World}{sb wb:Nat}{lv f:Int}{M:St}(bw:ak F w sb M)(d6:w.cell? ⟨wb,0,none⟩=some (.pointer (some ⟨sb,0,none⟩)))(fD:w.cell? ⟨wb,1,none⟩=some (.int .i64 lv))(X:¬F wb)
  (f3:1≤f∧f≤5) (f9:M.room<1048576) (ea:0≤lv) (f6:lv+1<M.n) (lo hi:Edge) (f5:lo.ok) (f4:hi.ok) (gb:M.leads f lo (lv+1)=true) (ga:M.leads f hi (lv+1)=true) :
  Calls Tryz.prog 265 #[.pointer (some ⟨wb,0,none⟩),.int .u8 f,.agg #[.int .u8 lo.tag,.int .u32 lo.to],.agg #[.int .u8 hi.tag,.int .u32 hi.to]] w (nh F w sb lv f M lo hi):=by
 have g8:=bw.wf.bw
 have hr:lv≤14:=by omega
 have g':=aB d6
 dsimp only at g'
 have al:=aa bw
 have bn:=aa f3
 have d3:=aa gb
 have g4:=aa ga
 have c2:=aa (⟨f5,f4⟩:lo.ok∧hi.ok)
 have g':=aa f9
 have br:=aa f6
 clear bw f3 gb ga f5 f4 f9 f6 g8
 have bw:wb<w.heap.size+1:=by omega
 have bw:wb<w.heap.size+1+1:=by omega
 have bw:wb<w.heap.size+1+1+1:=by omega
 go_enter Tryz.func265,Tryz.ntmps265
 go_wp2_with fail
 obtain⟨L,T⟩:∃L,L=(((w.alloc (.cells #[.int .u8 lo.tag,.int .u32 lo.to] 52)).alloc (.cells #[.int .u8 hi.tag,.int .u32 hi.to] 52)).alloc (.cells #[.int .u8 0,.int .u32 0] 52)).alloc (.cells #[.int .u8 0,.int .u32 0] 52):=⟨_,rfl⟩
 have gh:L.cell? ⟨w.heap.size,0,none⟩=some (.int .u8 lo.tag):=by rw[T];simp[go_sem]
 have gj:L.cell? ⟨w.heap.size,1,none⟩=some (.int .u32 lo.to):=by rw[T];simp[go_sem]
 have c8:L.cell? ⟨(w.heap.size+1),0,none⟩=some (.int .u8 hi.tag):=by rw[T];simp[go_sem]
 have c9:L.cell? ⟨(w.heap.size+1),1,none⟩=some (.int .u32 hi.to):=by rw[T];simp[go_sem]
 have Y:L.cell? ⟨(w.heap.size+1+1),0,none⟩=some (.int .u8 0):=by rw[T];simp[go_sem]
 have Z:L.cell? ⟨(w.heap.size+1+1),1,none⟩=some (.int .u32 0):=by rw[T];simp[go_sem]
 have ab:L.cell? ⟨(w.heap.size+1+1+1),0,none⟩=some (.int .u8 0):=by rw[T];simp[go_sem]
 have ad:L.cell? ⟨(w.heap.size+1+1+1),1,none⟩=some (.int .u32 0):=by rw[T];simp[go_sem]
 have be:∀o:Nat,L.frozen? ⟨w.heap.size+1+1,o,none⟩=false:=fun o=>by rw[T];simp[go_sem]
 have bf:∀o:Nat,L.frozen? ⟨w.heap.size+1+1+1,o,none⟩=false:=fun o=>by rw[T];simp[go_sem]
 have cj:ae w L:=by rw[T];exact((((ae.refl _).alloc _).alloc _).alloc _).alloc _
 have gu:L.heap.size=w.heap.size+4:=by rw[T];simp
 have bs:=cj.cell d6
 have g7:=cj.cell fD
 have e7:¬F w.heap.size:=fun bw=>by have:=al.out.lt _ bw;omega
 have b5:¬F (w.heap.size+1):=fun bw=>by have:=al.out.lt _ bw;omega
 have I:¬F (w.heap.size+1+1):=fun bw=>by have:=al.out.lt _ bw;omega
 have J:¬F (w.heap.size+1+1+1):=fun bw=>by have:=al.out.lt _ bw;omega
 have bw:Pg F w L sb F M:=⟨cj.av F,al.out.ad cj,fun am f3=>.inl f3⟩
 have s:=aa bw
 have U:=aa (cM.refl al.out.wf)
 rw[←T]
 clear T d6 fD cj bw
 obtain⟨wc,f'⟩:∃wc,wc=L:=⟨_,rfl⟩
 rw[←f']at gh gj c8 c9 Y Z ab ad be bf gu bs g7 s ⊢
 clear f' L
 obtain⟨c',hj⟩:w.heap.size+4≤wc.heap.size∧wc.heap.size≤w.heap.size+4:=by omega
 clear gu
 have a1:=s.out.a8.lt
 have N:=aa a1
 have bb:=fun(q:World) (O:ae wc q)=>nY (s.out.a8.ad O) f lo (lv+1) c2.out.1
 rw[oJ bn.out]at bb
 obtain⟨W,eb⟩:∃t,t=cH M (aj M f lo (lv+1)):=⟨_,rfl⟩
 obtain⟨a,eg⟩:∃t,t=cz M (aj M f lo (lv+1)):=⟨_,rfl⟩
 obtain⟨b,ek⟩:∃t,t=bL M f (aj M f lo (lv+1)):=⟨_,rfl⟩
 obtain⟨d7,ep⟩:∃t,t=cK M (aj M f lo (lv+1)):=⟨_,rfl⟩
 rw[←eb,←eg,←ek,←ep]at bb
 have av:=aa (fun(q:World) (O:ae wc q)=>iu N.out (aE _) (bb q O))
 have cy:=aa eb
 have cb:=aa ep
 have ds:=aa eg
 have d0:=aa ek
 clear bb a1 eb ep eg ek
 have e4:wc.heap.size≠wb:=by omega
 have hg:wc.heap.size+1≠wb:=by omega
 have S:wc.heap.size≠w.heap.size:=by omega
 have hh:wc.heap.size+1≠w.heap.size:=by omega
 go_cut [12,13,14] (fun L T b6 b7=>∃a6 a7 dk,L=.pointer (some ⟨a6,0,none⟩)∧T=.pointer (some ⟨a7,0,none⟩)∧b6=.int .u8 d7∧gY F wc b7 sb W a6 a7 a b dk)
 case first=>
  go_region_held3 (fun w'=>w'.cell? ⟨wb,0,none⟩=some (.pointer (some ⟨sb,0,none⟩))∧w'.cell? ⟨w.heap.size,0,none⟩=some (.int .u8 lo.tag)∧w'.cell? ⟨w.heap.size,1,none⟩=some (.int .u32 lo.to)) (go_keep) ((go_at_call 258;refine(av.out _ kp).mono ?_;rintro c3 B ⟨⟨rfl,z,bv⟩,a0,eR,bx,b0,b1⟩;have a4:=z.size;(try simp only[ai,World.a5,World.cx]at a4);have fg:=z.cellAt (b:=wb) (o:=0) (v:=.pointer (some ⟨sb,0,none⟩)) X (by go_keep);have fi:=z.cellAt (b:=w.heap.size) (o:=0) (v:=.int .u8 lo.tag) e7 (by go_keep);have fj:=z.cellAt (b:=w.heap.size) (o:=1) (v:=.int .u32 lo.to) e7 (by go_keep);have e8:B.heap.size≠wb:=(by omega);have hl:B.heap.size+1≠wb:=(by omega);have e9:B.heap.size≠w.heap.size:=(by omega);have hm:B.heap.size+1≠w.heap.size:=(by omega)))
  all_goals(try go_wp2_with fail)
  all_goals go_meet
  all_goals refine⟨_,_,_,rfl,rfl,rfl,jY N.out kp z bv ?_ ?_ ?_ ?_ ?_ ?_ ?_⟩
  all_goals(try(simp[go_sem];done))
  all_goals(try(simp only[ai,World.a5,au];omega))
  all_goals(try(repeat (first|with_reducible exact af.refl _ _|with_reducible refine af.alloc ?_ _|with_reducible refine af.drew ?_|refine af.setCell ?_ (Or.inl (Or.inl rfl)) _|refine af.setCell ?_ (Or.inl (Or.inr rfl)) _)))
  all_goals(try(simp[go_sem,a0,bx,b0,b1];done))
  all_goals
   have fl:B.cell? ⟨wc.heap.size,0,none⟩=some (.int .u8 0):=(a0 _ _ (aE _) (by simp only[ai,World.a5];omega)).trans ((World.cell?_alloc_lt _ _ _ (by simp)).trans (by simp[go_sem]))
   have fp:B.cell? ⟨wc.heap.size,1,none⟩=some (.int .u32 0):=(a0 _ _ (aE _) (by simp only[ai,World.a5];omega)).trans ((World.cell?_alloc_lt _ _ _ (by simp)).trans (by simp[go_sem]))
   simp[go_sem,fl,fp]
 case rest=>
  obtain⟨a6,a7,dk,rfl,rfl,rfl,j⟩:=hcut;replace bs:=j.av.cellAt X bs;replace c8:=j.av.cellAt b5 c8;replace c9:=j.av.cellAt b5 c9;replace Y:=j.av.cellAt I Y;replace Z:=j.av.cellAt I Z;replace ab:=j.av.cellAt J ab;replace ad:=j.av.cellAt J ad;replace be:=fun o:Nat=>j.av.frozen (a:=⟨(w.heap.size+1+1),o,none⟩) (by show(w.heap.size+1+1)<_;omega) I (be o);replace bf:=fun o:Nat=>j.av.frozen (a:=⟨(w.heap.size+1+1+1),o,none⟩) (by show(w.heap.size+1+1+1)<_;omega) J (bf o);have a4:=j.av.size;have da:=j.a0;have ca:=j.c0;have e':=j.a1;have cp:=j.c1;have ha:=aB da;have hb:=aB ca;dsimp only at ha hb;have b3:=j.nB;have a5:=j.nC;have L:=j.gB;have L:=j.gC;have L:w.heap.size+4≤a6:=by omega
  have L:w.heap.size+4≤a7:=by omega
  replace J:=j.no J (by omega);replace I:=j.no I (by omega);replace b5:=j.no b5 (by omega);replace X:=j.no X (by omega);have s:=aa (s.out.box j);replace c':w.heap.size+4≤wc.heap.size:=by omega
  clear j av N gh gj e7 hj;by_cases f0:d7=0
  case neg=>
   obtain⟨cl,cn,co⟩:=mZ al.out.wf d3.out br.out (cb.out ▸ f0);obtain rfl:d7=6:=cb.out.trans cl;have aw:W=M:=cy.out.trans cn;have bp:=fun(w':World) (b2:af (fun am=>am=w.heap.size+1+1∨am=w.heap.size+1+1+1) wc w')=>og (lv:=lv) (f:=f) (M:=M) (lo:=lo) (hi:=hi) s.out (by rw[aw];exact U.out.le (by decide)) (by rw[aw];exact co) b2 I J;have cd:=aa bp;clear bp;go_wp2_with fail;refine aq (v:=.tuple #[.agg #[.int .u8 (⟨0,0⟩:Edge).tag,.int .u32 (⟨0,0⟩:Edge).to],.agg #[.int .u8 (⟨0,0⟩:Edge).tag,.int .u32 (⟨0,0⟩:Edge).to],.int .u8 6]) (by simp[results,Tryz.results265,go_sem,Y,Z,ab,ad]) rfl (cd.out _ ?_)
   (repeat (first|with_reducible exact af.refl _ _|refine dx (Or.inl rfl) ?_ _ _|refine dx (Or.inr rfl) ?_ _ _|with_reducible refine af.alloc ?_ _|with_reducible refine af.drew ?_))
  case pos=>
   subst f0;have ci:=gV al.out.wf d3.out br.out cb.out.symm;have e2:=jO al.out.wf d3.out br.out cb.out.symm;obtain⟨T,bw⟩:=pT al.out.wf al.out.bx (fun id r L=>al.out.b0 L) (f:=f) c2.out.1 (by omega) br.out;rw[←cy.out]at e2;rw[←cy.out,←ds.out,←d0.out]at ci;rw[←ds.out]at T;rw[←d0.out]at bw;have U:=aa ((U.out.trans e2).le (show(0:Int)+1≤1 by decide));have cf:=aa ci;have c0:=aa (⟨T,bw⟩:a.ok∧b.ok);have d2:=aa (ci.ext.leads g4.out);have ce:=aa (show lv+1<W.n by have:=ci.ext.n;have:=br.out;omega);have c4:=pT s.out.a8.wf s.out.a8.bx (fun id r L=>s.out.a8.b0 L) (f:=f) (e:=hi) (l:=lv+1);have c4:=aa c4;clear ci e2 T bw;have a1:=s.out.a8.lt;have N:=aa a1;have bb:=fun(q:World) (O:ae wc q)=>nY (s.out.a8.ad O) f hi (lv+1) c2.out.2;rw[oJ bn.out]at bb;obtain⟨A,ec⟩:∃t,t=cH W (aj W f hi (lv+1)):=⟨_,rfl⟩;obtain⟨c,el⟩:∃t,t=cz W (aj W f hi (lv+1)):=⟨_,rfl⟩;obtain⟨d,em⟩:∃t,t=bL W f (aj W f hi (lv+1)):=⟨_,rfl⟩;obtain⟨d8,er⟩:∃t,t=cK W (aj W f hi (lv+1)):=⟨_,rfl⟩;rw[←ec,←el,←em,←er]at bb;have av:=aa (fun(q:World) (O:ae wc q)=>iu N.out (aE _) (bb q O));have cD:=aa ec;have cc:=aa er;have dB:=aa el;have d1:=aa em;clear bb a1 ec er el em;have e4:wc.heap.size≠wb:=(by omega);have hg:wc.heap.size+1≠wb:=(by omega);have S:wc.heap.size≠(w.heap.size+1):=(by omega);have hh:wc.heap.size+1≠(w.heap.size+1):=(by omega);have b9:wc.heap.size≠w.heap.size:=(by omega);have L:wc.heap.size+1≠w.heap.size:=(by omega);go_wp2_with fail;go_cut [15,16,14] (fun L T b6 b7=>∃a8 a' dl,L=.pointer (some ⟨a8,0,none⟩)∧T=.pointer (some ⟨a',0,none⟩)∧b6=.int .u8 d8∧gY dk wc b7 sb A a8 a' c d dl)
   case first=>
    go_region_held3 (fun w'=>w'.cell? ⟨wb,0,none⟩=some (.pointer (some ⟨sb,0,none⟩))∧w'.cell? ⟨(w.heap.size+1),0,none⟩=some (.int .u8 hi.tag)∧w'.cell? ⟨(w.heap.size+1),1,none⟩=some (.int .u32 hi.to)) (go_keep) ((go_at_call 258;refine(av.out _ kp).mono ?_;rintro c3 B ⟨⟨rfl,z,bv⟩,a0,eR,bx,b0,b1⟩;have a4:=z.size;(try simp only[ai,World.a5,World.cx]at a4);have fg:=z.cellAt (b:=wb) (o:=0) (v:=.pointer (some ⟨sb,0,none⟩)) X (by go_keep);have fi:=z.cellAt (b:=(w.heap.size+1)) (o:=0) (v:=.int .u8 hi.tag) b5 (by go_keep);have fj:=z.cellAt (b:=(w.heap.size+1)) (o:=1) (v:=.int .u32 hi.to) b5 (by go_keep);have e8:B.heap.size≠wb:=(by omega);have hl:B.heap.size+1≠wb:=(by omega);have e9:B.heap.size≠(w.heap.size+1):=(by omega);have hm:B.heap.size+1≠(w.heap.size+1):=(by omega);have gv:B.heap.size≠w.heap.size:=(by omega);have L:B.heap.size+1≠w.heap.size:=(by omega)))
    all_goals(try go_wp2_with fail)
    all_goals go_meet
    all_goals refine⟨_,_,_,rfl,rfl,rfl,jY N.out kp z bv ?_ ?_ ?_ ?_ ?_ ?_ ?_⟩
    all_goals(try(simp[go_sem];done))
    all_goals(try(simp only[ai,World.a5,au];omega))
    all_goals(try(repeat (first|with_reducible exact af.refl _ _|with_reducible refine af.alloc ?_ _|with_reducible refine af.drew ?_|refine af.setCell ?_ (Or.inl (Or.inl rfl)) _|refine af.setCell ?_ (Or.inl (Or.inr rfl)) _)))
    all_goals(try(simp[go_sem,a0,bx,b0,b1];done))
    all_goals
     have fl:B.cell? ⟨wc.heap.size,0,none⟩=some (.int .u8 0):=(a0 _ _ (aE _) (by simp only[ai,World.a5];omega)).trans ((World.cell?_alloc_lt _ _ _ (by simp)).trans (by simp[go_sem]))
     have fp:B.cell? ⟨wc.heap.size,1,none⟩=some (.int .u32 0):=(a0 _ _ (aE _) (by simp only[ai,World.a5];omega)).trans ((World.cell?_alloc_lt _ _ _ (by simp)).trans (by simp[go_sem]))
     simp[go_sem,fl,fp]
   case rest=>
    obtain⟨a8,a',dl,rfl,rfl,rfl,j⟩:=hcut;replace bs:=j.av.cellAt X bs;replace Y:=j.av.cellAt I Y;replace Z:=j.av.cellAt I Z;replace ab:=j.av.cellAt J ab;replace ad:=j.av.cellAt J ad;replace da:=j.av.cellAt b3 da;replace e':=j.av.cellAt b3 e';replace ca:=j.av.cellAt a5 ca;replace cp:=j.av.cellAt a5 cp;replace be:=fun o:Nat=>j.av.frozen (a:=⟨(w.heap.size+1+1),o,none⟩) (by show(w.heap.size+1+1)<_;omega) I (be o);replace bf:=fun o:Nat=>j.av.frozen (a:=⟨(w.heap.size+1+1+1),o,none⟩) (by show(w.heap.size+1+1+1)<_;omega) J (bf o);have a4:=j.av.size;have gx:=j.a0;have db:=j.c0;have hn:=j.a1;have fa:=j.c1;have hc:=aB gx;have hd:=aB db;dsimp only at hc hd;have e6:=j.nB;have b4:=j.nC;have L:=j.gB;have L:=j.gC;have L:w.heap.size+4≤a8:=(by omega);have L:w.heap.size+4≤a':=(by omega);replace J:=j.no J (by omega);replace I:=j.no I (by omega);replace b3:=j.no b3 (by omega);replace a5:=j.no a5 (by omega);replace X:=j.no X (by omega);have s:=aa (s.out.box j);replace c':w.heap.size+4≤wc.heap.size:=(by omega);clear j av N c8 c9 b5;by_cases f1:d8=0
    case neg=>
     obtain⟨cl,cn,co⟩:=mZ cf.out.wf d2.out ce.out (cc.out ▸ f1);obtain rfl:d8=6:=cc.out.trans cl;have aw:A=W:=cD.out.trans cn;have bp:=fun(w':World) (b2:af (fun am=>am=w.heap.size+1+1∨am=w.heap.size+1+1+1) wc w')=>og (lv:=lv) (f:=f) (M:=M) (lo:=lo) (hi:=hi) s.out (by rw[aw];exact U.out.le (by decide)) (by rw[aw];exact co) b2 I J;have cd:=aa bp;clear bp;go_wp2_with fail;refine aq (v:=.tuple #[.agg #[.int .u8 (⟨0,0⟩:Edge).tag,.int .u32 (⟨0,0⟩:Edge).to],.agg #[.int .u8 (⟨0,0⟩:Edge).tag,.int .u32 (⟨0,0⟩:Edge).to],.int .u8 6]) (by simp[results,Tryz.results265,go_sem,Y,Z,ab,ad]) rfl (cd.out _ ?_)
     (repeat (first|with_reducible exact af.refl _ _|refine dx (Or.inl rfl) ?_ _ _|refine dx (Or.inr rfl) ?_ _ _|with_reducible refine af.alloc ?_ _|with_reducible refine af.drew ?_))
    case pos=>
     subst f1;have b8:=gV cf.out.wf d2.out ce.out cc.out.symm;have e3:=jO cf.out.wf d2.out ce.out cc.out.symm;obtain⟨L,T⟩:=c4.out c2.out.2 (by omega) ce.out;rw[←dB.out]at L;rw[←d1.out]at T;have c1:=aa (⟨L,T⟩:c.ok∧d.ok);rw[←cD.out]at e3;rw[←cD.out,←dB.out,←d1.out]at b8;have U:=aa ((U.out.trans e3).le (show(1:Int)+1≤2 by decide));have d5:=aa b8;have al:lv+1<A.n:=(by have:=b8.ext.n;have:=ce.out;omega);have fv:=aa al;have g0:=aa (b8.ext.leads cf.out.cp);have g1:=aa (b8.ext.leads cf.out.cf);clear b8 e3 al c4 L T;have a1:=s.out.a8.lt;have N:=aa a1;have eS:(aL f A (ay f A (lv+1) a c)).ok:=mA s.out.a8.wf s.out.a8.bx c0.out.1 c1.out.1 (by omega) (by have:=br.out;have:=U.out.ext.n;omega) bn.out;have a3:=fun(q:World) (O:ae wc q)=>lX (s.out.a8.ad O) f (lv+1) a c c0.out.1 c1.out.1;rw[ml bn.out]at a3;change ∀q,ae wc q→Calls _ _ _ q fun r w'=>r=.returned (.tuple #[.agg #[.int .u8 (aL f A (ay f A (lv+1) a c)).tag,.int .u32 (aL f A (ay f A (lv+1) a c)).to],.int .u8 (cV A (ay f A (lv+1) a c))])∧af _ q w'∧ak (aC _ q w') w' sb (aX A (ay f A (lv+1) a c))at a3;obtain⟨E,ed⟩:∃t,t=aX A (ay f A (lv+1) a c):=⟨_,rfl⟩;obtain⟨x,c5⟩:∃t,t=aL f A (ay f A (lv+1) a c):=⟨_,rfl⟩;obtain⟨d9,et⟩:∃t,t=cV A (ay f A (lv+1) a c):=⟨_,rfl⟩;rw[←ed,←c5,←et]at a3;rw[←c5]at eS;have av:=aa (fun(q:World) (O:ae wc q)=>iu N.out (aE _) (a3 q O));have cE:=aa ed;have cx:=aa et;have fr:=aa c5;have fx:=aa eS;clear a3 a1 ed et c5 eS;have e4:wc.heap.size≠wb:=(by omega);have S:wc.heap.size≠a6:=(by omega);have b9:wc.heap.size≠a8:=(by omega);have gc:wc.heap.size≠w.heap.size:=(by omega);go_wp2_with fail;go_cut [17,14] (fun L b6 b7=>∃bg dr,L=.pointer (some ⟨bg,0,none⟩)∧b6=.int .u8 d9∧gY dl wc b7 sb E bg bg x x dr)
     case first=>
      go_region_held3 (fun w'=>w'.cell? ⟨wb,0,none⟩=some (.pointer (some ⟨sb,0,none⟩))∧w'.cell? ⟨a6,0,none⟩=some (.int .u8 a.tag)∧w'.cell? ⟨a6,1,none⟩=some (.int .u32 a.to)∧w'.cell? ⟨a8,0,none⟩=some (.int .u8 c.tag)∧w'.cell? ⟨a8,1,none⟩=some (.int .u32 c.to)) (go_keep) ((go_at_call 71;refine(av.out _ kp).mono ?_;rintro c3 B ⟨⟨rfl,z,bv⟩,a0,eR,bx,b0,b1⟩;have a4:=z.size;(try simp only[ai,World.a5,World.cx]at a4);have fg:=z.cellAt (b:=wb) (o:=0) (v:=.pointer (some ⟨sb,0,none⟩)) X (by go_keep);have fi:=z.cellAt (b:=a6) (o:=0) (v:=.int .u8 a.tag) b3 (by go_keep);have fj:=z.cellAt (b:=a6) (o:=1) (v:=.int .u32 a.to) b3 (by go_keep);have hp:=z.cellAt (b:=a8) (o:=0) (v:=.int .u8 c.tag) e6 (by go_keep);have hq:=z.cellAt (b:=a8) (o:=1) (v:=.int .u32 c.to) e6 (by go_keep);have e8:B.heap.size≠wb:=(by omega);have e9:B.heap.size≠a6:=(by omega);have gv:B.heap.size≠a8:=(by omega);have hk:B.heap.size≠w.heap.size:=(by omega)))
      all_goals(try go_wp2_with fail)
      all_goals go_meet
      all_goals refine⟨_,_,rfl,rfl,jY N.out kp z bv ?_ ?_ ?_ ?_ ?_ ?_ ?_⟩
      all_goals(try(simp[go_sem];done))
      all_goals(try(simp only[ai,World.a5,au];omega))
      all_goals(try(repeat (first|with_reducible exact af.refl _ _|with_reducible refine af.alloc ?_ _|with_reducible refine af.drew ?_|refine af.setCell ?_ (Or.inl (Or.inl rfl)) _|refine af.setCell ?_ (Or.inl (Or.inr rfl)) _)))
      all_goals(simp[go_sem,a0,bx,b0,b1];done)
     case rest=>
      obtain⟨bg,dr,rfl,rfl,j⟩:=hcut;replace bs:=j.av.cellAt X bs;replace Y:=j.av.cellAt I Y;replace Z:=j.av.cellAt I Z;replace ab:=j.av.cellAt J ab;replace ad:=j.av.cellAt J ad;replace ca:=j.av.cellAt a5 ca;replace cp:=j.av.cellAt a5 cp;replace db:=j.av.cellAt b4 db;replace fa:=j.av.cellAt b4 fa;replace be:=fun o:Nat=>j.av.frozen (a:=⟨(w.heap.size+1+1),o,none⟩) (by show(w.heap.size+1+1)<_;omega) I (be o);replace bf:=fun o:Nat=>j.av.frozen (a:=⟨(w.heap.size+1+1+1),o,none⟩) (by show(w.heap.size+1+1+1)<_;omega) J (bf o);have a4:=j.av.size;have dj:=j.a0;have fb:=j.a1;have he:=aB dj;dsimp only at he;have c7:=j.nB;have L:=j.gB;have L:w.heap.size+4≤bg:=(by omega);replace J:=j.no J (by omega);replace I:=j.no I (by omega);replace a5:=j.no a5 (by omega);replace b4:=j.no b4 (by omega);replace X:=j.no X (by omega);have s:=aa (s.out.box j);replace c':w.heap.size+4≤wc.heap.size:=(by omega);clear j av N da e' gx hn b3 e6;have bD:=kg d5.out.wf bn.out (l:=lv+1) (by omega) fv.out g0.out d5.out.cp;by_cases f2:d9=0
      case neg=>
       obtain⟨cl,cn,co⟩:d9=6∧E=A∧A.room≤A.len:=by
        rcases bD with⟨S,_⟩|⟨S,b9,_,e5⟩
        ·exact absurd (cx.out.trans S) f2
        ·exact⟨cx.out.trans S,cE.out.trans b9,e5⟩
       subst cl;have aw:=cn;clear bD;have bp:=fun(w':World) (b2:af (fun am=>am=w.heap.size+1+1∨am=w.heap.size+1+1+1) wc w')=>og (lv:=lv) (f:=f) (M:=M) (lo:=lo) (hi:=hi) s.out (by rw[aw];exact U.out.le (by decide)) (by rw[aw];exact co) b2 I J;have cd:=aa bp;clear bp;go_wp2_with fail;refine aq (v:=.tuple #[.agg #[.int .u8 (⟨0,0⟩:Edge).tag,.int .u32 (⟨0,0⟩:Edge).to],.agg #[.int .u8 (⟨0,0⟩:Edge).tag,.int .u32 (⟨0,0⟩:Edge).to],.int .u8 6]) (by simp[results,Tryz.results265,go_sem,Y,Z,ab,ad]) rfl (cd.out _ ?_)
       (repeat (first|with_reducible exact af.refl _ _|refine dx (Or.inl rfl) ?_ _ _|refine dx (Or.inr rfl) ?_ _ _|with_reducible refine af.alloc ?_ _|with_reducible refine af.drew ?_))
      case pos=>
       subst f2
       have bd:jm f A (lv+1) a c E x:=by
        rcases bD with⟨S,bq⟩|⟨S,_⟩
        ·rw[←cE.out,←fr.out]at bq;exact bq
        ·have:=cx.out.trans S;cases this
       have L:cM A E 1:=⟨bd.ext,bd.wf,bd.room,bd.len,fun e1=>by rw[cE.out];exact mV e1 _⟩;have U:=aa ((U.out.trans L).le (show(2:Int)+1≤3 by decide));have g5:=aa bd;have gC:=aa (show lv+1<E.n by have:=bd.ext.n;have:=fv.out;omega);have g2:=aa (bd.ext.leads g1.out);have g3:=aa (bd.ext.leads d5.out.cf);clear bD bd L;have a1:=s.out.a8.lt;have N:=aa a1;have e0:(aL f E (ay f E (lv+1) b d)).ok:=mA s.out.a8.wf s.out.a8.bx c0.out.2 c1.out.2 (by omega) (by have:=br.out;have:=U.out.ext.n;omega) bn.out;have a3:=fun(q:World) (O:ae wc q)=>lX (s.out.a8.ad O) f (lv+1) b d c0.out.2 c1.out.2;rw[ml bn.out]at a3;change ∀q,ae wc q→Calls _ _ _ q fun r w'=>r=.returned (.tuple #[.agg #[.int .u8 (aL f E (ay f E (lv+1) b d)).tag,.int .u32 (aL f E (ay f E (lv+1) b d)).to],.int .u8 (cV E (ay f E (lv+1) b d))])∧af _ q w'∧ak (aC _ q w') w' sb (aX E (ay f E (lv+1) b d))at a3;obtain⟨cg,ee⟩:∃t,t=aX E (ay f E (lv+1) b d):=⟨_,rfl⟩;obtain⟨y,c6⟩:∃t,t=aL f E (ay f E (lv+1) b d):=⟨_,rfl⟩;obtain⟨bt,ev⟩:∃t,t=cV E (ay f E (lv+1) b d):=⟨_,rfl⟩;rw[←ee,←c6,←ev]at a3;rw[←c6]at e0;have av:=aa (fun(q:World) (O:ae wc q)=>iu N.out (aE _) (a3 q O));have cS:=aa ee;have ft:=aa ev;have fs:=aa c6;have fz:=aa e0;clear a3 a1 ee ev c6 e0;have e4:wc.heap.size≠wb:=(by omega);have S:wc.heap.size≠a7:=(by omega);have b9:wc.heap.size≠a':=(by omega);have gc:wc.heap.size≠w.heap.size:=(by omega);go_wp2_with fail;go_cut [18,14] (fun q b6 b7=>∃bi cv,q=.pointer (some ⟨bi,0,none⟩)∧b6=.int .u8 bt∧gY dr wc b7 sb cg bi bi y y cv)
       case first=>
        go_region_held3 (fun w'=>w'.cell? ⟨wb,0,none⟩=some (.pointer (some ⟨sb,0,none⟩))∧w'.cell? ⟨a7,0,none⟩=some (.int .u8 b.tag)∧w'.cell? ⟨a7,1,none⟩=some (.int .u32 b.to)∧w'.cell? ⟨a',0,none⟩=some (.int .u8 d.tag)∧w'.cell? ⟨a',1,none⟩=some (.int .u32 d.to)) (go_keep) ((go_at_call 71;refine(av.out _ kp).mono ?_;rintro c3 B ⟨⟨rfl,z,bv⟩,a0,eR,bx,b0,b1⟩;have a4:=z.size;(try simp only[ai,World.a5,World.cx]at a4);have fg:=z.cellAt (b:=wb) (o:=0) (v:=.pointer (some ⟨sb,0,none⟩)) X (by go_keep);have fi:=z.cellAt (b:=a7) (o:=0) (v:=.int .u8 b.tag) a5 (by go_keep);have fj:=z.cellAt (b:=a7) (o:=1) (v:=.int .u32 b.to) a5 (by go_keep);have hp:=z.cellAt (b:=a') (o:=0) (v:=.int .u8 d.tag) b4 (by go_keep);have hq:=z.cellAt (b:=a') (o:=1) (v:=.int .u32 d.to) b4 (by go_keep);have e8:B.heap.size≠wb:=(by omega);have e9:B.heap.size≠a7:=(by omega);have gv:B.heap.size≠a':=(by omega);have hk:B.heap.size≠w.heap.size:=(by omega)))
        all_goals(try go_wp2_with fail)
        all_goals go_meet
        all_goals refine⟨_,_,rfl,rfl,jY N.out kp z bv ?_ ?_ ?_ ?_ ?_ ?_ ?_⟩
        all_goals(try(simp[go_sem];done))
        all_goals(try(simp only[ai,World.a5,au];omega))
        all_goals(try(repeat (first|with_reducible exact af.refl _ _|with_reducible refine af.alloc ?_ _|with_reducible refine af.drew ?_|refine af.setCell ?_ (Or.inl (Or.inl rfl)) _|refine af.setCell ?_ (Or.inl (Or.inr rfl)) _)))
        all_goals(simp[go_sem,a0,bx,b0,b1];done)
       case rest=>
        obtain⟨bi,cv,rfl,rfl,j⟩:=hcut;replace Y:=j.av.cellAt I Y;replace Z:=j.av.cellAt I Z;replace ab:=j.av.cellAt J ab;replace ad:=j.av.cellAt J ad;replace dj:=j.av.cellAt c7 dj;replace fb:=j.av.cellAt c7 fb;replace be:=fun o:Nat=>j.av.frozen (a:=⟨(w.heap.size+1+1),o,none⟩) (by show(w.heap.size+1+1)<_;omega) I (be o);replace bf:=fun o:Nat=>j.av.frozen (a:=⟨(w.heap.size+1+1+1),o,none⟩) (by show(w.heap.size+1+1+1)<_;omega) J (bf o);have a4:=j.av.size;have gB:=j.a0;have ho:=j.a1;have hf:=aB gB;dsimp only at hf;have q:=j.nB;have q:=j.gB;have q:w.heap.size+4≤bi:=(by omega);replace J:=j.no J (by omega);replace I:=j.no I (by omega);replace c7:=j.no c7 (by omega);have s:=aa (s.out.box j);replace c':w.heap.size+4≤wc.heap.size:=(by omega);have bD:=kg g5.out.wf bn.out (l:=lv+1) (by omega) gC.out g2.out g3.out
        have f7:∀w':World,af (fun am=>am=w.heap.size+1+1∨am=w.heap.size+1+1+1) wc w'→nh F w sb lv f M lo hi (.returned (.tuple #[.agg #[.int .u8 x.tag,.int .u32 x.to],.agg #[.int .u8 y.tag,.int .u32 y.to],.int .u8 bt])) w':=fun w' b2=>by
         have f8:=s.out.out b2 I J;rcases bD with⟨S,bq⟩|⟨S,b9,gc,e5⟩
         ·have ch:bt=0:=ft.out.trans S;rw[←cS.out,←fs.out]at bq;have g9:cM E cg 1:=⟨bq.ext,bq.wf,bq.room,bq.len,fun e1=>by rw[cS.out];exact mV e1 _⟩;refine⟨cg,x,y,bt,cv,rfl,fx.out,fz.out,.inl ch,f8,(U.out.trans g9).le (show(3:Int)+1≤4 by decide),fun fE=>(by rw[ch]at fE;cases fE),fun _=>?_⟩;exact⟨W,A,E,a,b,c,d,cb.out.symm,cy.out,ds.out,d0.out,cc.out.symm,cD.out,dB.out,d1.out,cx.out.symm,cE.out,fr.out,S,cS.out,fs.out⟩
         ·have ch:bt=6:=ft.out.trans S;have aw:cg=E:=cS.out.trans b9;refine⟨cg,x,y,bt,cv,rfl,fx.out,fz.out,.inr ch,f8,by rw[aw];exact U.out.le (by decide),fun _=>by rw[aw];exact e5,fun ea=>(by rw[ch]at ea;cases ea)⟩
        have g6:=aa f7;clear bD f7 j av N ca cp db fa a5 b4;go_wp2_with fail;have j:(w.heap.size+1+1==bg)=false:=(by simp;omega);have c3:(w.heap.size+1+1+1==bi)=false:=(by simp;omega);have j:w.heap.size+1+1≠bg:=(by omega);have j:w.heap.size+1+1≠bi:=(by omega);have j:w.heap.size+1+1+1≠bg:=(by omega);have j:w.heap.size+1+1+1≠bi:=(by omega);go_region;go_wp2_with fail;refine aq (v:=.tuple #[.agg #[.int .u8 x.tag,.int .u32 x.to],.agg #[.int .u8 y.tag,.int .u32 y.to],.int .u8 bt]) (by simp[results,Tryz.results265,go_sem,Y,Z,ab,ad,dj,fb,gB,ho]) rfl (g6.out _ ?_)
        (repeat (first|with_reducible exact af.refl _ _|refine dx (Or.inl rfl) ?_ _ _|refine dx (Or.inr rfl) ?_ _ _|with_reducible refine af.alloc ?_ _|with_reducible refine af.drew ?_|with_reducible refine af.drewN ?_ _))
end Go.Proofs.YtafkamlhimkbmaaGreat
