/-
  Plainly: what an operation of three tells of three edges.
-/
import Derived.Test.YtafkamlhimkbmaaGreatPCacheP
import Derived.Test.YtafkamlhimkbmaaGreatPCountP
import Derived.Test.YtafkamlhimkbmaaGreatPSwapP
namespace Go.Proofs.YtafkamlhimkbmaaGreat
set_option maxRecDepth 1000000
set_option maxHeartbeats 8000000
set_option linter.unusedSimpArgs false
set_option linter.unusedVariables false
def cE (op:Int)(x y:Bool):Bool:=if op=192 then x&&y else if op=252 then x||y else !x
structure dv (M:St)(j:aD):Prop where
 f:1≤j.fo∧j.fo≤5
 op:j.op=192∨j.op=252∨j.op=15
 l0:0≤j.lv
 ln:j.lv≤M.n
 a:M.leads j.fo j.ea j.lv=true
 b:M.leads j.fo j.eb j.lv=true
 c:M.leads j.fo j.ec j.lv=true
 ok:j.ok
structure bB (M:St)(j:aD)(v:Edge):Prop where
 hg:dv M j
 ok:v.ok
 lead:M.leads j.fo v j.lv=true
 eA:∀x,tv M j.fo x j.lv v=cE j.op (tv M j.fo x j.lv j.ea) (tv M j.fo x j.lv j.eb)
theorem dv.ext {M M':St}{j:aD}(h:dv M j)(s:aP M M'):dv M' j:=
 ⟨h.f,h.op,h.l0,by rw[s.n];exact h.ln,s.leads h.a,s.leads h.b,s.leads h.c,h.ok⟩
theorem bB.ext {M M':St}{j:aD}{v:Edge}(h:bB M j v)(s:aP M M')(t:M.wf):bB M' j v:=
 ⟨h.hg.ext s,h.ok,s.leads h.lead,fun x=>by
  rw[eZ t s (aW.of h.lead),eZ t s (aW.of h.hg.a),eZ t s (aW.of h.hg.b)]
  exact h.eA x⟩
theorem ma {M:St}{f l:Int}(s:1≤f∧f≤5)(h0:0≤l)(t:l≤M.n)(z:M.n≤16):M.leads f ⟨0,0⟩ l=true:=
 bf.2 ⟨bK.2 ⟨s.1,s.2,by omega,z,h0,t,fun _=>rfl,fun _ u=>absurd rfl u⟩,.inl (by show(0:Int)<2;omega)⟩
theorem tR {M:St}(u:M.wf){j:aD}(h:dv M j)(z:j.op≠15)(s:j.ea.to=0)(t:j.eb.to=0):bB M j ⟨0,0⟩:=by
 refine⟨h,eF,ma h.f h.l0 h.ln u.b0,fun x=>?_⟩;rw[cQ (e:=⟨0,0⟩) rfl,cQ s,cQ t];unfold cE;split;·rfl
 ·split;·rfl
  ·rcases h.op with q|q|q<;>first|(exfalso;omega)|contradiction
theorem mR {M:St}{f x l:Int}{e:Edge}(t:l=M.n):tv M f x l e=decide (e.to≠0):=by
 by_cases s:e.to=0;·rw[cQ s];simp[s]
 ·rw[qh s (by omega)];simp[s]
theorem tQ {M:St}(D:M.wf){j:aD}(h:dv M j)(t:j.lv=M.n){v:Edge}(u:v=if cE j.op (decide (j.ea.to≠0)) (decide (j.eb.to≠0))then eV j.fo j.lv else⟨0,0⟩):bB M j v:=by
 have hm:∀x,tv M j.fo x j.lv v=cE j.op (tv M j.fo x j.lv j.ea) (tv M j.fo x j.lv j.eb):=fun x=>by
  rw[mR t,mR t,mR t,u];split
  ·rename_i s;rw[s];unfold eV;split<;>rfl
  ·rename_i s;rw[Bool.not_eq_true]at s;rw[s];rfl
 have I:=D.n0;have E:=D.b0;rw[u];rw[u]at hm;split at hm
 ·rename_i s;rw[ai s];refine⟨h,lJ (f:=j.fo) (b:=true) (by omega) (by omega),?_,hm⟩;have t:=h.f;refine bf.2 ⟨bK.2 ⟨t.1,t.2,I,E,h.l0,h.ln,fun q=>?_,fun q _=>?_⟩,.inl ?_⟩
  ·unfold eV at q ⊢;split
   ·rename_i z;rw[ai z]at q;rcases q with q|q;·exact absurd z q
    ·cases q
   ·rfl
  ·unfold eV;rw[ai q];exact⟨Int.le_refl _,h.ln⟩
  ·unfold eV;split<;>(show(1:Int)<2;omega)
 ·rename_i s;rw[ag s];exact⟨h,eF,ma h.f h.l0 h.ln E,hm⟩
theorem mW {f:Int}{M:St}(u:M.wf){l:Int}{e:Edge}(t:M.leads f e l=true)(s:l<M.n)(z:M.len<M.a7):fe M (ao M f e l)=0:=by
 apply Classical.byContradiction;intro he;obtain⟨_,_,c⟩:=Ac u t s he;omega
theorem vu {f:Int}{M:St}(h:M.wf){l:Int}{lo hi:Edge}(z:1≤f∧f≤5)(h0:0≤l)(u:l<M.n)(s:M.leads f lo (l+1)=true)(t:M.leads f hi (l+1)=true)(D:M.len<M.a7) :
  fB M (aT f M l lo hi)=0∧gY f M l lo hi (bT M (aT f M l lo hi)) (bS f M (aT f M l lo hi)):=by
 rcases vq h z h0 u s t with q|⟨_,_,_,q⟩
 ·exact q
 ·omega
def aX (k:Nat):Int:=4*((2:Int) ^ k-1)
theorem sL (k:Nat):aX (k+1)=4+2*aX k:=by
 unfold aX;rw[Int.pow_succ];omega
theorem lD (k:Nat):0≤aX k:=by
 unfold aX;have:(0:Int)<2 ^ k:=Int.pow_pos (by decide);omega
theorem sK {k:Nat}(h:k≤6):aX k≤252:=by
 have:k=0∨k=1∨k=2∨k=3∨k=4∨k=5∨k=6:=by omega
 rcases this with rfl|rfl|rfl|rfl|rfl|rfl|rfl<;>decide
def aD.bw (j:aD)(a b c:Edge):aD:=⟨j.fo,j.op,j.lv+1,a,b,c⟩
theorem tS {M D M2 V z s:St}(T:M.wf){j:aD}(h:dv M j)(ax:j.lv<M.n){J I bl N Y X x y:Edge}
  (t:hQ j.fo M j.lv j.ea D J I) (u:hQ j.fo D j.lv j.eb M2 bl N) (ad:hQ j.fo M2 j.lv j.ec V Y X)
  (Z:aP V z) (aw:z.wf) (ah:bB z (j.bw J bl Y) x) (O:aP z s) (ay:s.wf) (am:bB s (j.bw I N X) y)
  {E:St} {U:Edge} (hm:gY j.fo s j.lv x y E U) (av:U.ok):bB E j U:=by
 have Q:aP D s:=((u.ext.trans ad.ext).trans Z).trans O
 have ab:aP M2 s:=(ad.ext.trans Z).trans O
 have z:aP M E:=(t.ext.trans Q).trans hm.ext
 refine⟨h.ext z,av,hm.lead,fun p=>?_⟩
 rw[hm.eA,eZ T z (aW.of h.a),eZ T z (aW.of h.b)]
 have z:=t.ext.leads h.b
 rw[t.eA,←eZ T t.ext (aW.of h.b),u.eA]
 have al:=(ah.ext O aw)
 cases aO p j.lv with
 |true=>
  rw[ai rfl,ai rfl,ai rfl];have q:=am.eA p;change tv s j.fo p (j.lv+1) y=cE j.op (tv s j.fo p (j.lv+1) I) (tv s j.fo p (j.lv+1) N)at q;rw[q,eZ t.wf Q (aW.of t.fg),eZ u.wf ab (aW.of u.fg)]
 |false=>
  rw[ag (by simp),ag (by simp),ag (by simp)];have q:=al.eA p;change tv s j.fo p (j.lv+1) x=cE j.op (tv s j.fo p (j.lv+1) J) (tv s j.fo p (j.lv+1) bl)at q;rw[q,eZ t.wf Q (aW.of t.fi),eZ u.wf ab (aW.of u.fi)]
theorem nW {M M':St}{j:aD}(h:dv M j)(I:j.lv<M.n)(s:aP M M'){a b c:Edge}(t:M'.leads j.fo a (j.lv+1)=true)(u:M'.leads j.fo b (j.lv+1)=true)(z:M'.leads j.fo c (j.lv+1)=true)(D:a.ok)(ob:b.ok)(E:c.ok)(J:M.n≤16):dv M' (j.bw a b c):=
 ⟨h.f,h.op,by have:=h.l0;show 0≤j.lv+1;omega,by rw[s.n];show j.lv+1≤M.n;omega,t,u,z,⟨h.ok.f,h.ok.o,by have:=h.l0;show 0≤j.lv+1∧j.lv+1≤255;omega,D,ob,E⟩⟩
def gA (M:St)(en:Nat→Option (aD×Edge)):Prop:=∀i j v,en i=some (j,v)→bB M j v
theorem gA.ext {M M':St}{en:Nat→Option (aD×Edge)}(h:gA M en)(s:aP M M')(t:M.wf):gA M' en:=fun i j v hi=>(h i j v hi).ext s t
theorem gA.put {M:St}{en:Nat→Option (aD×Edge)}(h:gA M en){j:aD}{v:Edge}(u:bB M j v):gA M (fun i=>if i=j.cc then some (j,v)else en i):=fun i z D hi=>by
 simp only[]at hi;split at hi
 ·injection hi with hi;injection hi with s t;subst s t;exact u
 ·exact h i z D hi
theorem zo (op:Int)(g h:Int→Bool):∀(k m:Nat) (x:Int),dH (fun x=>cE op (g x) (h x)) k m x=List.zipWith (cE op) (dH g k m x) (dH h k m x):=by
 intro k;induction k with
 |zero=>intro m x;rfl
 |succ k s=>
  intro m x;show dH _ k (m+1) x++dH _ k (m+1) (x+2 ^ m)=List.zipWith (cE op) (dH g k (m+1) x++dH g k (m+1) (x+2 ^ m)) (dH h k (m+1) x++dH h k (m+1) (x+2 ^ m));rw[List.zipWith_append (by rw[kP,kP]),s,s]
theorem lP {M:St}{j:aD}{v:Edge}(h:bB M j v)(s:j.lv=0):bg M j.fo v 0=List.zipWith (cE j.op) (bg M j.fo j.ea 0) (bg M j.fo j.eb 0):=by
 have hm:=h.eA;rw[s]at hm;unfold bg;rw[←zo];congr 1
 funext x
 exact hm x
theorem sJ {us vs:List Bool}(s:us.length=vs.length):∀y,bU us y+bU vs y=bU (List.zipWith (cE 192) us vs) y+bU (List.zipWith (cE 252) us vs) y:=by
 intro y;induction y with
 |zero=>rfl
 |succ y s=>
  show bU us y+(if us[y]?=some true then 1 else 0)+(bU vs y+(if vs[y]?=some true then 1 else 0)) =
   bU (List.zipWith (cE 192) us vs) y+(if(List.zipWith (cE 192) us vs)[y]?=some true then 1 else 0)+(bU (List.zipWith (cE 252) us vs) y+(if(List.zipWith (cE 252) us vs)[y]?=some true then 1 else 0))
  rw[List.getElem?_zipWith,List.getElem?_zipWith];by_cases h:y<us.length
  ·rw[aQ h,aQ (by omega)];simp only[];cases us[y]<;>cases vs[y]<;>simp[cE]<;>omega
  ·rw[eT (by omega),eT (by omega)];simp;omega
theorem sI {us:List Bool}:∀y,y≤us.length→bU us y+bU (List.zipWith (cE 15) us us) y=y:=by
 intro y;induction y with
 |zero=>intro _;rfl
 |succ y t=>
  intro z;have t:=t (by omega);show bU us y+(if us[y]?=some true then 1 else 0)+(bU (List.zipWith (cE 15) us us) y+(if(List.zipWith (cE 15) us us)[y]?=some true then 1 else 0))=y+1;obtain⟨b,s⟩:∃b,us[y]?=some b:=⟨_,aQ (by omega)⟩
  have u:(List.zipWith (cE 15) us us)[y]?=some (!b):=by
   rw[List.getElem?_zipWith,s];rfl
  rw[u,s];cases b with
  |true=>rw[ai rfl,ag (show¬some (!true)=some true by decide)];omega
  |false=>rw[ag (show¬some false=some true by decide),ai (show some (!false)=some true by rfl)];omega
open Go.RowKit
theorem af.da {F G:Nat→Prop}{a b c:World}(h:af F a b)(k:af G b c)(t:∀i,i<a.heap.size→G i→F i):af F a c:=
 ⟨k.os.trans h.os,k.tape.trans h.tape,k.output.trans h.output,dp h.size k.size,fun i hi s=>(k.block i (dz hi h.size) (fun u=>s (t i hi u))).trans (h.block i hi s)⟩
structure aE (W:World)(B:Nat)(cs:List Value):Prop where
 cell:∀t v,cs[t]?=some v→W.cell? ⟨B,t,none⟩=some v
 frz:∀o,W.frozen? ⟨B,o,none⟩=false
 lt:B<W.heap.size
theorem aE.upd {W u:World}{B:Nat}{cs:List Value}{G:Nat→Prop}(h:aE W B cs)(s:af G W u)(t:¬G B):aE u B cs:=
 ⟨fun z v u=>s.cellAt t (h.cell z v u),fun o=>s.frozen (a:=⟨B,o,none⟩) h.lt t (h.frz o),by have:=s.size;have:=h.lt;omega⟩
theorem aE.U {W s:World}{B:Nat}{cs:List Value}(h:aE W B cs)(t:ae W s):aE s B cs:=h.upd (ae.upd t (fun _=>False)) (fun h=>h)
theorem aE.ho {W:World}{B C:Nat}{cs:List Value}(h:aE W B cs)(s:B≠C)(o:Nat)(v:Value):aE (W.setCell ⟨C,o,none⟩ v) B cs:=
 h.upd ((af.refl (fun k=>k=C) W).setCell (p:=⟨C,o,none⟩) (Or.inl rfl) v) (fun e=>s e)
theorem aE.set {W:World}{B:Nat}{cs:List Value}(h:aE W B cs){o:Nat}(u:o<cs.length)(v:Value):aE (W.setCell ⟨B,o,none⟩ v) B (cs.set o v):=by
 have h0:=h.cell o _ (aQ u);refine⟨fun t D s=>?_,fun t=>by simp[go_sem,h.frz t],by simpa using h.lt⟩;by_cases e:t=o
 ·subst e;rw[jA u]at s;injection s with s;subst s;simp[go_sem,h0]
 ·rw[fV (Ne.symm e)]at s;have z:=h.cell t D s;simp[go_sem,z,e,Ne.symm e]
structure bj (F:Nat→Prop)(W:World)(ob sb kb lb:Nat)(M:St)(en:Nat→Option (aD×Edge)):Prop where
 a':aq F W sb M
 c0:W.cell? ⟨ob,0,none⟩=some (.pointer (some ⟨sb,0,none⟩))
 c1:W.cell? ⟨ob,1,none⟩=some (.pointer (some ⟨kb,0,none⟩))
 ev:bX W kb lb en
 kept:gA M en
 nO:¬F ob
 nK:¬F kb
 nL:¬F lb
 fp:ob≠kb
 fz:ob≠lb
def eL (F:Nat→Prop)(kb lb:Nat):Nat→Prop:=fun i=>F i∨i=kb∨i=lb
section
variable {F F':Nat→Prop}{W W':World}{ob sb kb lb:Nat}{M M':St}{en en':Nat→Option (aD×Edge)}
theorem bj.lt (h:bj F W ob sb kb lb M en):ob<W.heap.size∧kb<W.heap.size∧lb<W.heap.size:=⟨aJ h.c0,h.ev.cy.1,h.ev.cy.2⟩
theorem bj.keep {G:Nat→Prop}(h:bj F W ob sb kb lb M en)(s:af G W W')(hF:∀k,F k→¬G k)(t:¬G ob)(u:¬G kb)(z:¬G lb):bj F W' ob sb kb lb M en:=
 ⟨h.a'.keep s hF,s.cellAt t h.c0,s.cellAt t h.c1,h.ev.keep s u z,h.kept,h.nO,h.nK,h.nL,h.fp,h.fz⟩
theorem bj.U (h:bj F W ob sb kb lb M en)(s:ae W W'):bj F W' ob sb kb lb M en:=h.keep (ae.upd s (fun _=>False)) (fun _ _ h=>h) (fun h=>h) (fun h=>h) (fun h=>h)
theorem bj.store (h:bj F W ob sb kb lb M en)(s:af F W W')(z:aq F' W' sb M')(hF:∀j,F' j→F j∨W.heap.size≤j)(t:aP M M'):bj F' W' ob sb kb lb M' en:=by
 obtain⟨E,I,J⟩:=h.lt;have no:∀x,¬F x→x<W.heap.size→¬F' x:=fun x D N u=>by rcases hF _ u with q|q;exact D q;omega
 exact⟨z,s.cellAt h.nO h.c0,s.cellAt h.nO h.c1,h.ev.keep s h.nK h.nL,h.kept.ext t h.a'.wf,no _ h.nO E,no _ h.nK I,no _ h.nL J,h.fp,h.fz⟩
theorem bj.c7 {G:Nat→Prop}(h:bj F W ob sb kb lb M en)(t:af G W W')(u:∀i,G i→i=kb∨i=lb)(E:bX W' kb lb en')(I:gA M en'):bj F W' ob sb kb lb M en':=by
 have no:∀x,x≠kb→x≠lb→¬G x:=fun x z D s=>by rcases u _ s with q|q;exact z q;exact D q
 exact⟨h.a'.keep t (fun k hF s=>by rcases u _ s with rfl|rfl;exact h.nK hF;exact h.nL hF),t.cellAt (no _ h.fp h.fz) h.c0,t.cellAt (no _ h.fp h.fz) h.c1,E,I,h.nO,h.nK,h.nL,h.fp,h.fz⟩
end
def fk (F:Nat→Prop)(w:World)(ob sb kb lb:Nat)(M:St)(j:aD)(k:Nat)(r:Ending)(s:World):Prop:=
 ∃(M':St) (x:Edge) (F':Nat→Prop) (en':Nat→Option (aD×Edge)),r=.returned (.tuple #[.agg #[.int .u8 x.tag,.int .u32 x.to],.int .u8 0])∧bB M' j x∧ck M M' (aX k)∧af (eL F kb lb) w s∧(∀i,F' i→F i∨w.heap.size≤i)∧bj F' s ob sb kb lb M' en'
structure cw (F:Nat→Prop)(w W:World)(ob sb kb lb:Nat)(M0 M:St)(c:Int)(F1:Nat→Prop)(en:Nat→Option (aD×Edge))(P R B C:Nat)(j lo hi:aD):Prop where
 upd:af (eL F kb lb) w W
 sub:∀i,F1 i→F i∨w.heap.size≤i
 ctx:bj F1 W ob sb kb lb M en
 went:ck M0 M c
 pj:aE W P j.cs
 pr:aE W R [.int .u8 0,.int .u32 0]
 pl:aE W B lo.cs
 ph:aE W C hi.cs
 nP:¬F1 P
 nR:¬F1 R
 nB:¬F1 B
 nC:¬F1 C
 gP:w.heap.size≤P
 gR:w.heap.size≤R
 gB:w.heap.size≤B
 gC:w.heap.size≤C
 hZ:P≠B
 h0:P≠C
 h1:R≠B
 h2:R≠C
 hz:B≠C
 h6:P≠R
 cy:ob<w.heap.size∧kb<w.heap.size∧lb<w.heap.size
section
variable {F F1 F2:Nat→Prop}{w W W2 w2:World}{ob sb kb lb:Nat}{M0 M M2:St}{c d:Int}{en en2:Nat→Option (aD×Edge)}{P R B C:Nat}{j lo hi:aD}
theorem cw.U (h:cw F w W ob sb kb lb M0 M c F1 en P R B C j lo hi)(s:ae W W2):cw F w W2 ob sb kb lb M0 M c F1 en P R B C j lo hi:=
 { h with upd:=h.upd.bd (ae.upd s _),ctx:=h.ctx.U s,pj:=h.pj.U s,pr:=h.pr.U s,pl:=h.pl.U s,ph:=h.ph.U s }
theorem cw.done (h:cw F w W ob sb kb lb M0 M c F1 en P R B C j lo hi)(D:ck M M2 d)(t:af (eL F1 kb lb) W W2)(hs:∀i,F2 i→F1 i∨W.heap.size≤i)(u:bj F2 W2 ob sb kb lb M2 en2):cw F w W2 ob sb kb lb M0 M2 (c+d) F2 en2 P R B C j lo hi:=by
 have E:=h.upd.size;obtain⟨E,I,J⟩:=h.cy
 have no:∀x,¬F1 x→w.heap.size≤x→¬eL F1 kb lb x:=fun x u E s=>by
  rcases s with s|s|s;·exact u s
  ·omega
  ·omega
 have z:∀x,¬F1 x→x<W.heap.size→¬F2 x:=fun x u E s=>by
  rcases hs _ s with q|q;·exact u q
  ·omega
 exact { h with
  upd:=h.upd.da t (fun i hi s=>by
   rcases s with s|s|s
   ·rcases h.sub i s with q|q;·exact .inl q
    ·omega
   ·exact .inr (.inl s)
   ·exact .inr (.inr s))
  sub:=fun i hi=>by
   rcases hs i hi with q|q;·exact h.sub i q
   ·exact .inr (by omega)
  ctx:=u
  went:=h.went.trans D
  pj:=h.pj.upd t (no _ h.nP h.gP)
  pr:=h.pr.upd t (no _ h.nR h.gR)
  pl:=h.pl.upd t (no _ h.nB h.gB)
  ph:=h.ph.upd t (no _ h.nC h.gC)
  nP:=z _ h.nP h.pj.lt
  nR:=z _ h.nR h.pr.lt
  nB:=z _ h.nB h.pl.lt
  nC:=z _ h.nC h.ph.lt }
theorem cw.e0 (h:cw F w W ob sb kb lb M0 M c F1 en P R B C j lo hi){o:Nat}{v:Value}{lo':aD}(z:o<lo.cs.length)(e:lo'.cs=lo.cs.set o v):cw F w (W.setCell ⟨B,o,none⟩ v) ob sb kb lb M0 M c F1 en P R B C j lo' hi:=by
 have s:af (fun k=>k=B) W (W.setCell ⟨B,o,none⟩ v):=(af.refl (fun k=>k=B) W).setCell (p:=⟨B,o,none⟩) (Or.inl rfl) v;obtain⟨D,E,I⟩:=h.cy;have g:=h.gB
 exact { h with
  upd:=h.upd.setCell (p:=⟨B,o,none⟩) (.inr h.gB) v
  ctx:=h.ctx.keep s (fun k u t=>by subst t;exact h.nB u) (by omega) (by omega) (by omega)
  pj:=h.pj.upd s h.hZ
  pr:=h.pr.upd s h.h1
  pl:=by rw[e];exact h.pl.set z v
  ph:=h.ph.upd s (fun e=>h.hz e.symm) }
theorem cw.e1 (h:cw F w W ob sb kb lb M0 M c F1 en P R B C j lo hi){o:Nat}{v:Value}{hi':aD}(z:o<hi.cs.length)(e:hi'.cs=hi.cs.set o v):cw F w (W.setCell ⟨C,o,none⟩ v) ob sb kb lb M0 M c F1 en P R B C j lo hi':=by
 have s:af (fun k=>k=C) W (W.setCell ⟨C,o,none⟩ v):=(af.refl (fun k=>k=C) W).setCell (p:=⟨C,o,none⟩) (Or.inl rfl) v;obtain⟨D,E,I⟩:=h.cy;have g:=h.gC
 exact { h with
  upd:=h.upd.setCell (p:=⟨C,o,none⟩) (.inr h.gC) v
  ctx:=h.ctx.keep s (fun k u t=>by subst t;exact h.nC u) (by omega) (by omega) (by omega)
  pj:=h.pj.upd s h.h0
  pr:=h.pr.upd s h.h2
  pl:=h.pl.upd s h.hz
  ph:=by rw[e];exact h.ph.set z v }
theorem cw.store (h:cw F w W ob sb kb lb M0 M c F1 en P R B C j lo hi)(t:ck M M2 d)(s:af F1 W W2)(z:aq (aH F1 W W2) W2 sb M2):cw F w W2 ob sb kb lb M0 M2 (c+d) (aH F1 W W2) en P R B C j lo hi:=
 h.done t (s.mono (fun _ _ u=>.inl u)) (fun i hi=>by rcases hi with q|q;exact .inl q;exact .inr q.1) (h.ctx.store s z (fun i hi=>by rcases hi with q|q;exact .inl q;exact .inr q.1) t.ext)
theorem cw.gf (h:cw F w W ob sb kb lb M0 M c F1 en P R B C j lo hi)(o q:Nat)(s:o<9)(t:q<9)(x y:Edge){lm lo' hm hi':aD}(u:lm.cs=lo.cs.set o (.int .u8 x.tag))(z:lo'.cs=lm.cs.set q (.int .u32 x.to))(D:hm.cs=hi.cs.set o (.int .u8 y.tag))(E:hi'.cs=hm.cs.set q (.int .u32 y.to)) :
  cw F w ((((W.setCell ⟨B,o,none⟩ (.int .u8 x.tag)).setCell ⟨B,q,none⟩ (.int .u32 x.to)).setCell ⟨C,o,none⟩ (.int .u8 y.tag)).setCell ⟨C,q,none⟩ (.int .u32 y.to)) ob sb kb lb M0 M c F1 en P R B C j lo' hi' ∧
  cw F w ((((W.setCell ⟨C,o,none⟩ (.int .u8 y.tag)).setCell ⟨C,q,none⟩ (.int .u32 y.to)).setCell ⟨B,o,none⟩ (.int .u8 x.tag)).setCell ⟨B,q,none⟩ (.int .u32 x.to)) ob sb kb lb M0 M c F1 en P R B C j lo' hi':=
 ⟨(((h.e0 (lo':=lm) s u).e0 (lo':=lo') t z).e1 (hi':=hm) s D).e1 (hi':=hi') t E,(((h.e1 (hi':=hm) s D).e1 (hi':=hi') t E).e0 (lo':=lm) s u).e0 (lo':=lo') t z⟩
theorem cw.out (h:cw F w W ob sb kb lb M0 M c F1 en P R B C j lo hi){k:Nat}(u:af (fun i=>i=R) W w2){s:Edge}(g:bB M j s)(z:c≤aX k):fk F w ob sb kb lb M0 j k (.returned (.tuple #[.agg #[.int .u8 s.tag,.int .u32 s.to],.int .u8 0])) w2:=by
 obtain⟨E,I,J⟩:=h.cy;have E:=h.gR;exact⟨M,s,F1,en,rfl,g,h.went.le z,h.upd.da u (fun i hi t=>by omega),h.sub,h.ctx.keep u (fun k D t=>by subst t;exact h.nR D) (by omega) (by omega) (by omega)⟩
theorem aE.cf (w:World)(cs:List Value)(s:TypeId):aE (w.alloc (.cells cs.toArray s)) w.heap.size cs:=
 ⟨fun t v s=>by rw[cell_of_row _ _ t _ _ _ (heap_alloc_new w _)];simpa using s,fun o=>frozen_of_row _ _ o _ _ (heap_alloc_new w _),by simp⟩
theorem aE.hJ {W:World}{B:Nat}{j:aD}(h0:W.cell? ⟨B,0,none⟩=some (.int .u8 j.fo))(s:W.cell? ⟨B,1,none⟩=some (.int .u8 j.op))(z:W.cell? ⟨B,2,none⟩=some (.int .u8 j.lv))(D:W.cell? ⟨B,3,none⟩=some (.int .u8 j.ea.tag))(E:W.cell? ⟨B,4,none⟩=some (.int .u32 j.ea.to))(I:W.cell? ⟨B,5,none⟩=some (.int .u8 j.eb.tag))(J:W.cell? ⟨B,6,none⟩=some (.int .u32 j.eb.to))(N:W.cell? ⟨B,7,none⟩=some (.int .u8 j.ec.tag))(O:W.cell? ⟨B,8,none⟩=some (.int .u32 j.ec.to))(u:∀o,W.frozen? ⟨B,o,none⟩=false):aE W B j.cs:=by
 refine⟨fun s v t=>?_,u,aJ h0⟩;have u:=(List.getElem?_eq_some_iff.1 t).1;have:s=0∨s=1∨s=2∨s=3∨s=4∨s=5∨s=6∨s=7∨s=8:=by have:j.cs.length=9:=rfl;omega
 rcases this with rfl|rfl|rfl|rfl|rfl|rfl|rfl|rfl|rfl<;>(injection t with t;subst t;assumption)
end
end Go.Proofs.YtafkamlhimkbmaaGreat
