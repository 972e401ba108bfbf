/-
  swap.Swap.
-/
import Derived.Test.YtafkamlhimkbmaaGreatPPermS
import Derived.Test.YtafkamlhimkbmaaGreatPSwapB
import Derived.Deep.AppendLies
namespace Go.Proofs.YtafkamlhimkbmaaGreat
set_option maxRecDepth 1000000
set_option maxHeartbeats 8000000
set_option linter.unusedSimpArgs false
set_option linter.unusedVariables false
open Go.RowKit
def iz (F Fo:Nat→Prop)(w:World)(sb j:Nat)(M:St)(ps:List Int)(ss:List Nat)(rs:List (Int×Edge))(c code:Int)(r:Ending)(w':World):Prop:=
 (code≠0∧r=.returned (.tuple #[.slice none 0 0,.int .u8 code])∧ae w w')∨(code=0∧jP F Fo w sb j M ps ss rs c r w')
theorem jP.g4 {F Fo:Nat→Prop}{w j w':World}{sb t:Nat}{M:St}{ps:List Int}{ss:List Nat}{rs:List (Int×Edge)}{c:Int}{r:Ending}(h:jP F Fo j sb t M ps ss rs c r w')(s:ae w j):jP F Fo w sb t M ps ss rs c r w':=by
 obtain⟨g,es,M',F',j,t,S,A,B,E,I,J,L,z⟩:=h;have S:=s.size;exact⟨g,es,M',F',j,t,by omega,A,B,fun O N=>by rcases E O N with q|q;exact .inl q;exact .inr (by omega),I,J,(s.av _).bg L,z⟩
theorem uQ {F:Nat→Prop}{w:World}{sb:Nat}{M:St}{rs:List (Int×Edge)}(h:ak F w sb M)(op A:Value)(j:Option Addr)(cap3:Nat)(z:cA w j rs)(E:rs.length≤1048576)(B:cG M rs≠0) :
  Calls Tryz.prog 213 #[.pointer (some ⟨sb,0,none⟩),op,A,.slice j rs.length cap3] w fun e w'=>e=.returned (.tuple #[.slice none 0 0,.int .u8 (cG M rs)])∧ae w w':=by
 have t:=fun(J:World) (A:ae w J)=>tQ (h.ad A) j cap3 rs (z.ad A) E
 have N:=zG M rs
 obtain⟨c,s⟩:∃c,c=cG M rs:=⟨_,rfl⟩
 obtain⟨j,q⟩:∃j,j=rs.length:=⟨_,rfl⟩
 rw[←s,←q]at t
 rw[←s]at B N ⊢
 rw[←q]
 have I:=aa t
 have j:(c != 0)=true:=by simp[B]
 clear t h z s q E
 go_enter Tryz.func213,Tryz.ntmps213
 go_wp2_with (first|(go_at_call 248;refine(I.out _ kp).mono ?_;rintro e w1 ⟨rfl,L⟩)|fail)
 go_ret2
 exact⟨rfl,L⟩
def lK (M:St)(n:Nat)(lv:Int)(rs:List (Int×Edge)):Int:=if M.n=(n:Int)then(if lv<0∨M.n-1≤lv then 3 else cG M rs)else 1
theorem Dj {F Fo:Nat→Prop}{w:World}{sb z:Nat}{M:St}{ps:List Int}{rs:List (Int×Edge)}{c:Int}(h:ak F w sb M)(S:ba Fo w z ps)(av:∀k,F k→¬Fo k)(lv:Int)
  (J:Option Addr) (cap3:Nat) (U:∀j,af (fun bg=>F bg∨Fo bg) w j→cA j J rs) (a5:rs.length≤16) (am:0≤lv→lv+1<M.n→ej lv 0≤c) (bt:0≤c) (a1:M.len+(rs.length:Int)*c<M.room) (a0:M.room<1048576) :
  Calls Tryz.prog 169 #[.pointer (some ⟨sb,0,none⟩),.pointer (some ⟨z,0,none⟩),.int .i64 lv,.slice J rs.length cap3] w (iz F Fo w sb z M ps [lv.toNat] rs c (lK M ps.length lv rs)):=by
 have E:=fun(j:World) (s:ae w j)=>Di (h.ad s) (S.ad s)
 have ad:=fun(j:World) (s:ae w j)=>dw (h.ad s)
 have bd:=h.wf.n0
 have be:=h.wf.bw
 by_cases B:M.n=(ps.length:Int)
 ·have O:lK M ps.length lv rs=if lv<0∨M.n-1≤lv then 3 else cG M rs:=ah B;rw[ah B]at E;rw[O];by_cases T:lv<0∨M.n-1≤lv
  ·rw[ah T];have L:=aa E;have N:=aa ad;obtain⟨n,Y⟩:∃n,n=M.n:=⟨_,rfl⟩;rw[←Y]at N T bd be;clear E ad h S av U a5 am a1 a0 Y B O;have Z:∀w':World,ae w w'→iz F Fo w sb z M ps [lv.toNat] rs c 3 (.returned (.tuple #[.slice none 0 0,.int .u8 3])) w':=fun w' X=>.inl ⟨by decide,rfl,X⟩;have al:=aa Z;clear Z;by_cases bg:lv<0
   ·go_enter Tryz.func169,Tryz.ntmps169;go_wp2_with (first|(go_at_call 212;refine(L.out _ kp).mono ?_;rintro e w1 ⟨rfl,aw⟩)|(go_at_call 48;refine(N.out _ kp).mono ?_;rintro e w1 ⟨rfl,rfl⟩)|fail)
    go_ret2;exact al.out _ kp
   ·have bs:n-1≤lv:=(by omega);go_enter Tryz.func169,Tryz.ntmps169;go_wp2_with (first|(go_at_call 212;refine(L.out _ kp).mono ?_;rintro e w1 ⟨rfl,aw⟩)|(go_at_call 48;refine(N.out _ kp).mono ?_;rintro e w1 ⟨rfl,rfl⟩)|fail)
    go_ret2;exact al.out _ kp
  ·rw[ag T];obtain⟨A,rfl⟩:∃A:Nat,lv=(A:Int):=⟨lv.toNat,by omega⟩
   have a':cG M rs=0→∀(j:World) (q:Nat),ae w j→w.heap.size≤q→j.cell? ⟨q,0,none⟩=some (.int .i64 (A:Int))→Calls Tryz.prog 213 #[.pointer (some ⟨sb,0,none⟩),.pointer (some ⟨z,0,none⟩),.slice (some ⟨q,0,none⟩) 1 1,.slice J rs.length cap3] j (iz F Fo w sb z M ps [(A:Int).toNat] rs c (cG M rs)):=fun I j q s a7 a4=>by
    have W:=Dh (ss:=[A]) (c:=c) (h.ad s) (S.ad s) av (some ⟨q,0,none⟩) J 1 cap3 (fun W' a3 i x a6=>by
     have bv:¬(F q∨Fo q):=fun t=>by
      rcases t with t|t;·have:=h.lt _ t;omega
      ·have:=S.lt _ t;omega
     cases i with
     |zero=>
      simp at a6;subst a6;exact⟨q,0,rfl,a3.cellAt bv a4⟩
     |succ i=>simp at a6) (fun W' a3=>U W' ((s.av _).bg a3)) (by simp) a5 I B (fun bw ab=>by simp at ab;subst ab;omega) (fun bw ab=>by simp at ab;subst ab;exact am (by omega) (by omega)) bt (by simpa using a1) a0
    refine W.mono fun r w' t=>.inr ⟨I,?_⟩;exact t.g4 s
   have a8:cG M rs≠0→∀(j:World) (q:Nat),ae w j→Calls Tryz.prog 213 #[.pointer (some ⟨sb,0,none⟩),.pointer (some ⟨z,0,none⟩),.slice (some ⟨q,0,none⟩) 1 1,.slice J rs.length cap3] j (iz F Fo w sb z M ps [(A:Int).toNat] rs c (cG M rs)):=fun I j q s=>
    (uQ (h.ad s) _ _ J cap3 (U j (s.av _)) (by omega) I).mono fun r w' ⟨ab,X⟩=>.inl ⟨I,ab,s.trans X⟩
   have W:∀(j:World) (q:Nat),ae w j→w.heap.size≤q→j.cell? ⟨q,0,none⟩=some (.int .i64 (A:Int))→Calls Tryz.prog 213 #[.pointer (some ⟨sb,0,none⟩),.pointer (some ⟨z,0,none⟩),.slice (some ⟨q,0,none⟩) 1 1,.slice J rs.length cap3] j (iz F Fo w sb z M ps [(A:Int).toNat] rs c (cG M rs)):=fun j q s a7 a4=>by
    by_cases I:cG M rs=0;·exact a' I j q s a7 a4
    ·exact a8 I j q s
   obtain⟨code,bb⟩:∃code,code=cG M rs:=⟨_,rfl⟩;rw[←bb]at W ⊢;have bp:=aa W;have L:=aa E;have N:=aa ad;obtain⟨n,Y⟩:∃n,n=M.n:=⟨_,rfl⟩;rw[←Y]at N T bd be;have bs:¬n-1≤(A:Int):=(by omega);have j:(A:Int)≤16:=by omega
   have bf:∀r w',iz F Fo w sb z M ps [(A:Int).toNat] rs c code r w'→∃bi bn,r=.returned (.tuple #[bi,bn]):=fun r w' t=>by
    rcases t with⟨_,rfl,_⟩|⟨_,g,es,M',F',rfl,_⟩
    ·exact⟨_,_,rfl⟩
    ·exact⟨_,_,rfl⟩
   have br:=aa bf;clear E ad h S av U am a1 a0 Y B O W a' a8 bb T bf;go_enter Tryz.func169,Tryz.ntmps169;go_wp2_with (first|(go_at_call 212;refine(L.out _ kp).mono ?_;rintro e w1 ⟨rfl,aw⟩)|(go_at_call 48;refine(N.out _ kp).mono ?_;rintro e j ⟨rfl,rfl⟩)|fail)
   refine(bp.out _ w1.heap.size kp aw.size (by simp[go_sem])).mono ?_;rintro r j t;obtain⟨bi,bn,rfl⟩:=br.out _ _ t;have bq:=aa t;clear t;go_wp2_with fail;go_ret2;exact bq.out
 ·have O:lK M ps.length lv rs=1:=ag B;rw[ag B]at E;rw[O];have L:=aa E;clear E ad h S av U a5 am a1 a0 B O;have Z:∀w':World,ae w w'→iz F Fo w sb z M ps [lv.toNat] rs c 1 (.returned (.tuple #[.slice none 0 0,.int .u8 1])) w':=fun w' X=>.inl ⟨by decide,rfl,X⟩;have al:=aa Z;clear Z;go_enter Tryz.func169,Tryz.ntmps169;go_wp2_with (first|(go_at_call 212;refine(L.out _ kp).mono ?_;rintro e w1 ⟨rfl,aw⟩)|fail)
  go_ret2;exact al.out _ kp
theorem zP {a b j n:Nat}(q:a<n)(s:b<n)(h:j∈eu a b):j+1<n:=by
 unfold eu at h;split at h
 ·obtain⟨i,hi,rfl⟩:=List.mem_map.1 h;rw[List.mem_range]at hi;omega
 ·obtain⟨i,hi,rfl⟩:=List.mem_map.1 h;rw[List.mem_range]at hi;omega
theorem sE {t W':World}{s cap q size:Nat}{z:TypeId}{a:Option Addr}{xs:List Value}{G:Nat→Prop}(h:t.ownsRow s z size (.slice a q cap) q xs)(J:af G t W')(A:∀k,G k→k<s)(B:q≠0):∃g,a=some ⟨g,0,none⟩∧s≤g∧∀j,j<q*size→W'.cell? ⟨g,j,none⟩=xs[j]?:=by
 obtain⟨q,s,e,I⟩:=dv h;cases e;obtain⟨g,rfl⟩:=I B
 have E:=J.bp (fun k s q=>by
  have t:=A k q;have q:=sG h s
  omega) h
 exact⟨g,rfl,sG h rfl,fun j q=>E.cellAt j q⟩
theorem B4 {t W':World}{z cap q:Nat}{a:Option Addr}{rs:List (Int×Edge)}{G:Nat→Prop}(h:t.ownsRow z 55 3 (.slice a q cap) q (rs.flatMap cR))(J:q=rs.length)(I:af G t W')(B:∀k,G k→k<z)(E:∀r∈rs,(0≤r.1∧r.1≤255)∧r.2.ok):cA W' a rs:=fun i r j=>by
 have hi:=(List.getElem?_eq_some_iff.1 j).1;obtain⟨g,rfl,_,s⟩:=sE h I B (by omega);have A:=E r (bB j);refine⟨A.1,A.2,g,0,rfl,?_,?_,?_⟩
 ·rw[dK,s (i*3) (by omega)];exact en cR 3 (fun _=>rfl) rs i 0 r j (by omega)
 ·rw[dK,s (i*3+1) (by omega)];exact en cR 3 (fun _=>rfl) rs i 1 r j (by omega)
 ·rw[dK,s (i*3+2) (by omega)];exact en cR 3 (fun _=>rfl) rs i 2 r j (by omega)
theorem xA {t W':World}{z cap s:Nat}{a:Option Addr}{rs:List (Int×Edge)}{G:Nat→Prop}(h:t.ownsRow z 52 2 (.slice a s cap) s (rs.flatMap (fun r=>ig r.2)))(J:s=rs.length)(I:af G t W')(B:∀k,G k→k<z)(E:∀r∈rs,(0≤r.1∧r.1≤255)∧r.2.ok):p9 W' a (rs.map Prod.snd):=fun i e q=>by
 rw[dh]at q;cases j:rs[i]? with
 |none=>rw[j]at q;cases q
 |some r=>
  rw[j]at q;have hi:=(List.getElem?_eq_some_iff.1 j).1;obtain⟨g,rfl,_,A⟩:=sE h I B (by omega);obtain rfl:=Option.some.inj q;refine⟨(E r (bB j)).2,g,0,rfl,?_,?_⟩
  ·rw[dK,A (i*2) (by omega)];exact en (fun r:Int×Edge=>ig r.2) 2 (fun _=>rfl) rs i 0 r j (by omega)
  ·rw[dK,A (i*2+1) (by omega)];exact en (fun r:Int×Edge=>ig r.2) 2 (fun _=>rfl) rs i 1 r j (by omega)
structure fV (F Fo:Nat→Prop)(w:World)(sb ob:Nat)(M:St)(ps:List Int):Prop where
 a8:ak F w sb M
 b7:ba Fo w ob ps
 db:∀k,F k→¬Fo k
 n:M.n=(ps.length:Int)
 room:M.room<1048576
theorem zF {M:St}(s:M.wf):∀{rs:List (Int×Edge)},(∀r∈rs,(1≤r.1∧r.1≤5)∧M.leads r.1 r.2 0=true)→cG M rs=0:=by
 intro rs;induction rs with
 |nil=>intro _;rfl
 |cons r rs t=>
  intro h;have j:=h r (by simp);have e:cJ M r.1 r.2 0=0:=by rw[rZ s,ag (by simp[aR,j.1.1,j.1.2]),ag (by rw[j.2];simp)]
  rw[sg,ah e];exact t (fun j q=>h j (by simp[q]))
theorem fV.ad {F Fo:Nat→Prop}{w w':World}{sb q:Nat}{M:St}{ps:List Int}(h:fV F Fo w sb q M ps)(j:ae w w'):fV F Fo w' sb q M ps:=⟨h.a8.ad j,h.b7.ad j,h.db,h.n,h.room⟩
structure ia (M:St)(f:Int)(ps:List Int)(has:Nat→Bool)(x:Edge):Prop where
 ok:x.ok
 lead:M.leads f x 0=true
 right:cu M f x 0
 ev:tabP M ps f x=je ps.length has
theorem ia.ext {M M':St}{f:Int}{ps:List Int}{has:Nat→Bool}{x:Edge}(h:ia M f ps has x)(q:M.wf)(j:aD M M'):ia M' f ps has x:=
 ⟨h.ok,j.leads h.lead,ez j q h.right,by rw[mX q j h.lead];exact h.ev⟩
theorem wB {M:St}{f:Int}{ps:List Int}{has:Nat→Bool}{x:Edge}(q:M.wf)(j:1≤f∧f≤5)(t:aF ps=true)(s:M.n=(ps.length:Int))(z:x.ok)(h:eM f M has ps 0 0 x):ia M f ps has x:=
 ⟨z,h.1.leads q j (by omega),h.2,Dr t s (h.1.cD q j _ _ _ _ (by omega) (Int.le_refl _))⟩
theorem B3 {n:Nat}{ss:List Nat}{M M':St}{f:Int}{ps qs:List Int}{has:Nat→Bool}{x y:Edge}(h:ia M f ps has x)(t:ps.length=n)(j:gq n ss M M' f x y)(q:bu ps ss=qs):ia M' f qs has y:=by
 have s:=j.ev ps t;rw[q]at s;have t:qs.length=ps.length:=by rw[←q,gg]
 exact⟨j.ok,j.lead,j.right h.right,by rw[s,h.ev,t]⟩
theorem tR (M:St)(roots:List Int):aD (dG M roots) M:=⟨rfl,fun _ _ h=>(ll.1 h).1⟩
theorem tS {F:Nat→Prop}{w:World}{sb:Nat}{M:St}(h:ak F w sb M)(roots:List Int):(dG M roots).len=((aU M.cs roots).length:Int):=by
 have j:=Av M roots;have j:=yv h;rw[pK];omega
theorem ia.e8 {M:St}{f:Int}{ps:List Int}{has:Nat→Bool}{x:Edge}(h:ia M f ps has x){roots:List Int}(t:x.to∈roots)(q:(dG M roots).wf):ia (dG M roots) f ps has x:=by
 have j:=oM (roots:=roots) h.lead (fun s=>Reaches.root t s);exact⟨h.ok,j,mO (tR M roots) q j h.right,by rw[←mX q (tR M roots) j];exact h.ev⟩
def mr (ps:List Int)(j:List (Int×List Bool)):List (Int×List Bool):=j.map (fun r=>(r.1,eT (hasB (cZ r.2)) ps 0))
def aG (j:List (Int×List Bool))(ps:List Int):Nat:=pE ps.length (mr ps j)
def cL (M:St)(ps:List Int)(q:List (Int×List Bool))(rs:List (Int×Edge)):Prop:=
 rs.length=q.length∧∀(i:Nat) (j:Int×List Bool) (r:Int×Edge),q[i]?=some j→rs[i]?=some r→r.1=j.1∧(1≤r.1∧r.1≤5)∧ia M r.1 ps (hasB (cZ j.2)) r.2
theorem cL.leads {M:St}{ps:List Int}{j:List (Int×List Bool)}{rs:List (Int×Edge)}(h:cL M ps j rs):∀r∈rs,(1≤r.1∧r.1≤5)∧M.leads r.1 r.2 0=true:=fun r q=>by
 obtain⟨i,hi⟩:=List.mem_iff_getElem?.1 q;have q:=(List.getElem?_eq_some_iff.1 hi).1;obtain⟨t,q,s⟩:=h.2 i (j[i]'(by have:=h.1;omega)) r (ar (by have:=h.1;omega)) hi;exact⟨q,s.lead⟩
theorem cL.fE {M:St}{ps:List Int}{j:List (Int×List Bool)}{rs:List (Int×Edge)}(h:cL M ps j rs):∀r∈rs,r.2.ok:=fun r q=>by
 obtain⟨i,hi⟩:=List.mem_iff_getElem?.1 q;have q:=(List.getElem?_eq_some_iff.1 hi).1;obtain⟨s,t,q⟩:=h.2 i (j[i]'(by have:=h.1;omega)) r (ar (by have:=h.1;omega)) hi;exact q.ok
theorem cL.ch {F:Nat→Prop}{w:World}{sb:Nat}{M:St}{ps:List Int}{s:List (Int×List Bool)}{rs:List (Int×Edge)}(hS:ak F w sb M)(E:aF ps=true)(A:M.n=(ps.length:Int))(B:ps.length≤6)(I:M.len+64≤1048576)(h:cL M ps s rs):ny M ps.length (mr ps s) (rs.map Prod.snd):=by
 have I:2 ^ ps.length≤2 ^ 6:=aW (by decide) B;have B:(2:Nat) ^ 6=64:=rfl;refine⟨by simp[mr,h.1],fun i B e j q=>?_⟩;unfold mr at j;rw[dh]at j q;cases t:s[i]? with
 |none=>rw[t]at j;cases j
 |some g=>
  cases z:rs[i]? with
  |none=>rw[z]at q;cases q
  |some r=>
   rw[t]at j;rw[z]at q;cases j;cases q;obtain⟨q,s,j⟩:=h.2 i g r t z;refine⟨by rw[←q];exact s,⟨by rw[←q];exact j.lead,j.ok.2.1,by push_cast;omega⟩,?_⟩;show bR g.1 M (ps.length+1) r.2=fF g.1 ps.length (eT (hasB (cZ g.2)) ps 0) 0;rw[←q,BR s (hS.gh _ (by omega)) j.lead j.right j.ok.2.1 hS.hy A (by omega),Dq E A j.ev]
theorem cL.size {F:Nat→Prop}{w:World}{sb:Nat}{M:St}{ps:List Int}{j:List (Int×List Bool)}{rs:List (Int×Edge)}(hS:ak F w sb M)(B:aF ps=true)(A:M.n=(ps.length:Int))(t:ps.length≤6)(z:M.len+64≤1048576)(h:cL M ps j rs) :
  (aU M.cs ((rs.map Prod.snd).map Edge.to)).length=aG j ps∧aG j ps≤j.length*127:=by
 have j:=h.ch hS B A t z
 have q:=CY (fun f=>hS.gh f (by omega)) j
 have s:=Bj (fun f=>hS.gh f (by omega)) j
 have j:2 ^ (ps.length+1)≤2 ^ 7:=aW (by decide) (by omega)
 have j:(2:Nat) ^ 7=128:=rfl
 have j:(rs.map Prod.snd).length*(2 ^ (ps.length+1)-1)≤(rs.map Prod.snd).length*127:=Nat.mul_le_mul_left _ (by omega)
 rw[fy,h.1]at s j
 exact⟨q,by unfold aG;omega⟩
theorem cL.e8 {M:St}{ps:List Int}{j:List (Int×List Bool)}{rs:List (Int×Edge)}(h:cL M ps j rs)(t:(dG M ((rs.map Prod.snd).map Edge.to)).wf):cL (dG M ((rs.map Prod.snd).map Edge.to)) ps j rs:=
 ⟨h.1,fun i E r s q=>by
  obtain⟨z,A,B⟩:=h.2 i E r s q
  exact⟨z,A,B.e8 (List.mem_map.2 ⟨r.2,List.mem_map.2 ⟨r,bB q,rfl⟩,rfl⟩) t⟩⟩
theorem cL.step {M M':St}{ps:List Int}{ss:List Nat}{t:List (Int×List Bool)}{rs s:List (Int×Edge)}{es:List Edge}(h:cL M ps t rs)(A:jr ps.length ss M M' rs es)(E:s.length=rs.length)(I:∀(i:Nat) (r:Int×Edge) (e:Edge),rs[i]?=some r→es[i]?=some e→s[i]?=some (r.1,e)):cL M' (bu ps ss) t s:=
 ⟨E.trans h.1,fun i S r B q=>by
  have s:=(List.getElem?_eq_some_iff.1 q).1;have s:=A.1;have j:rs[i]?=some (rs[i]'(by omega)):=ar (by omega);have z:es[i]?=some (es[i]'(by omega)):=ar (by omega);obtain⟨L,N,O⟩:=h.2 i S _ B j;have J:=A.2 i _ _ j z;rw[I i _ _ j z]at q;cases q
  exact⟨L,N,B3 O rfl J rfl⟩⟩
def dq (w:World)(a:Option Addr)(lb:Nat)(rs:List (Int×Edge)):Prop:=
 rs≠[]→a=some ⟨lb,0,none⟩∧∃j:Array Value,w.heap[lb]?=some (.cells j 55 (0,0))∧∀(i:Nat) (r:Int×Edge),rs[i]?=some r→j[i*3]?=some (Value.int .u8 r.1)∧j[i*3+1]?=some (Value.int .u8 r.2.tag)∧j[i*3+2]?=some (Value.int .u32 r.2.to)
theorem dq.a4 {G:Nat→Prop}{w w':World}{a:Option Addr}{lb:Nat}{rs:List (Int×Edge)}(h:dq w a lb rs)(B:af G w w')(z:¬G lb):dq w' a lb rs:=fun A=>by
 obtain⟨s,q,j,t⟩:=h A;exact⟨s,q,(B.block lb (aM j) z).trans j,t⟩
theorem dq.ad {w w':World}{a:Option Addr}{lb:Nat}{rs:List (Int×Edge)}(h:dq w a lb rs)(j:ae w w'):dq w' a lb rs:=h.a4 (j.av (fun _=>False)) (fun h=>h)
theorem dq.cell {w:World}{a:Option Addr}{lb:Nat}{rs:List (Int×Edge)}(h:dq w a lb rs){i:Nat}{r:Int×Edge}(q:rs[i]?=some r) :
  a=some ⟨lb,0,none⟩∧w.cell? ⟨lb,i*3,none⟩=some (.int .u8 r.1)∧w.cell? ⟨lb,i*3+1,none⟩=some (.int .u8 r.2.tag)∧w.cell? ⟨lb,i*3+2,none⟩=some (.int .u32 r.2.to):=by
 obtain⟨z,B,j,A⟩:=h (fun e=>by rw[e]at q;cases q)
 obtain⟨s,a2,t⟩:=A i r q
 exact⟨z,by rw[cell_of_row w lb _ _ _ _ j];simp only[s],by rw[cell_of_row w lb _ _ _ _ j];simp only[a2],by rw[cell_of_row w lb _ _ _ _ j];simp only[t]⟩
theorem dq.frozen {w:World}{a:Option Addr}{lb:Nat}{rs:List (Int×Edge)}(h:dq w a lb rs){s:Nat}{r:Int×Edge}(j:rs[s]?=some r)(i:Nat):w.frozen? ⟨lb,i,none⟩=false:=by
 obtain⟨t,s,q,z⟩:=h (fun e=>by rw[e]at j;cases j);exact frozen_of_row w lb i _ _ q
theorem dq.roots {w:World}{a:Option Addr}{lb:Nat}{rs:List (Int×Edge)}(h:dq w a lb rs)(E:∀r∈rs,(0≤r.1∧r.1≤255)∧r.2.ok):cA w a rs:=fun i r j=>by
 obtain⟨B,q,s,t⟩:=h.cell j;obtain⟨z,A⟩:=E r (bB j);exact⟨z,A,lb,0,B,by rw[dK];exact q,by rw[dK];exact s,by rw[dK];exact t⟩
theorem dq.set {w:World}{a:Option Addr}{lb:Nat}{rs:List (Int×Edge)}(h:dq w a lb rs){i:Nat}{r:Int×Edge}(q:rs[i]?=some r)(e:Edge):dq ((w.setCell ⟨lb,i*3+1,none⟩ (.int .u8 e.tag)).setCell ⟨lb,i*3+2,none⟩ (.int .u32 e.to)) a lb (rs.set i (r.1,e)):=fun _=>by
 have hi:=(List.getElem?_eq_some_iff.1 q).1;obtain⟨B,I,E,s⟩:=h (fun e=>by rw[e]at q;cases q);have I:=Go.heap_setCell_same w lb (i*3+1) _ _ (.int .u8 e.tag) E;refine⟨B,_,Go.heap_setCell_same _ lb (i*3+2) _ _ (.int .u32 e.to) I,fun z x j=>?_⟩;obtain⟨A,a2,B⟩:=s i r q;have J:=(Array.getElem?_eq_some_iff.1 a2).1;have L:=(Array.getElem?_eq_some_iff.1 B).1;by_cases t:i=z
 ·subst t;rw[gy hi]at j;cases j;refine⟨?_,?_,?_⟩
  ·rw[dA,ag (by omega),dA,ag (by omega)];exact A
  ·rw[dA,ag (by omega),dA,ah rfl,ah J]
  ·rw[dA,ah rfl,ah (by simpa using L)]
 ·rw[fK t]at j;obtain⟨q,t,A⟩:=s z x j;refine⟨?_,?_,?_⟩
  ·rw[dA,ag (by omega),dA,ag (by omega)];exact q
  ·rw[dA,ag (by omega),dA,ag (by omega)];exact t
  ·rw[dA,ag (by omega),dA,ag (by omega)];exact A
structure fI (w:World)(bb:Nat)(la:Option Addr)(N cap sb ob:Nat):Prop where
 c0:w.cell? ⟨bb,0,none⟩=some (.pointer (some ⟨sb,0,none⟩))
 c1:w.cell? ⟨bb,1,none⟩=some (.pointer (some ⟨ob,0,none⟩))
 c2:w.cell? ⟨bb,2,none⟩=some (.slice la N cap)
 c3:w.cell? ⟨bb,3,none⟩=some (.int .u8 0)
theorem fI.a4 {G:Nat→Prop}{w w':World}{s t cap sb A:Nat}{z:Option Addr}(h:fI w s z t cap sb A)(q:af G w w')(j:¬G s):fI w' s z t cap sb A:=
 ⟨q.cellAt j h.c0,q.cellAt j h.c1,q.cellAt j h.c2,q.cellAt j h.c3⟩
theorem fI.ad {w w':World}{q j cap sb t:Nat}{s:Option Addr}(h:fI w q s j cap sb t)(z:ae w w'):fI w' q s j cap sb t:=h.a4 (z.av (fun _=>False)) (fun h=>h)
structure gK (F Fo:Nat→Prop)(w:World)(bb lb:Nat)(la:Option Addr)(cap sb ob:Nat)(M:St)(ps:List Int)(fs:List (Int×List Bool))(rs:List (Int×Edge)):Prop where
 bq:fV F Fo w sb ob M ps
 perm:aF ps=true
 n6:ps.length≤6
 bx:fs.length≤4
 len:M.len=(aG fs ps:Int)
 room:(fs.length:Int)*300<M.room
 b2:M.room≤1000000
 cg:cL M ps fs rs
 row:dq w la lb rs
 cells:fI w bb la fs.length cap sb ob
 nb:¬F bb∧¬Fo bb∧bb≠lb
 nl:¬F lb∧¬Fo lb
 e2:bb<w.heap.size∧lb<w.heap.size
theorem gK.ad {F Fo:Nat→Prop}{w w':World}{q lb cap sb z:Nat}{t:Option Addr}{M:St}{ps:List Int}{s:List (Int×List Bool)}{rs:List (Int×Edge)}(h:gK F Fo w q lb t cap sb z M ps s rs)(j:ae w w'):gK F Fo w' q lb t cap sb z M ps s rs:=
 ⟨h.bq.ad j,h.perm,h.n6,h.bx,h.len,h.room,h.b2,h.cg,h.row.ad j,h.cells.ad j,h.nb,h.nl,by have:=j.size;have:=h.e2;omega⟩
def aO (F0 Fo q:Nat→Prop)(w0 w:World)(j lb:Nat)(t:Option Addr)(cap sb z:Nat)(ps:List Int)(s:List (Int×List Bool)):Prop:=
 ∃(F:Nat→Prop) (M:St) (rs:List (Int×Edge)),gK F Fo w j lb t cap sb z M ps s rs∧(∀j,F j→F0 j∨w0.heap.size≤j)∧af (fun j=>F0 j∨Fo j∨j=lb∨q j) w0 w
theorem aO.ad {F0 Fo j:Nat→Prop}{w0 w w':World}{q lb cap sb A:Nat}{z:Option Addr}{ps:List Int}{s:List (Int×List Bool)}(h:aO F0 Fo j w0 w q lb z cap sb A ps s)(t:ae w w'):aO F0 Fo j w0 w' q lb z cap sb A ps s:=by
 obtain⟨F,M,rs,j,q,s⟩:=h;exact⟨F,M,rs,j.ad t,q,s.bg (t.av _)⟩
theorem aO.next {F0 F Fo X0 t:Nat→Prop}{w0 w w':World}{z lb cap sb I:Nat}{E:Option Addr}{ps:List Int}{A:List (Int×List Bool)}(hF:∀j,F j→F0 j∨w0.heap.size≤j)(B:af (fun j=>F0 j∨Fo j∨j=lb∨X0 j) w0 w)(L:∀j,t j→X0 j∨w0.heap.size≤j)(h:aO F Fo t w w' z lb E cap sb I ps A):aO F0 Fo X0 w0 w' z lb E cap sb I ps A:=by
 obtain⟨F',M,rs,t,J,z⟩:=h;have A:=B.size;refine⟨F',M,rs,t,fun j N=>?_,B.b9 z (fun i hi s=>?_)⟩
 ·rcases J j N with q|q;·exact hF j q
  ·exact .inr (by omega)
 ·rcases s with s|s|s|s
  ·rcases hF i s with q|q;·exact .inl q
   ·omega
  ·exact .inr (.inl s)
  ·exact .inr (.inr (.inl s))
  ·rcases L i s with q|q;·exact .inr (.inr (.inr q))
   ·omega
theorem aO.gb {F0 Fo z:Nat→Prop}{w0 w w':World}{I lb cap sb S:Nat}{O:Option Addr}{ps:List Int}{L:List (Int×List Bool)}(h:aO F0 Fo z w0 w I lb O cap sb S ps L)(t:af z w w')(E:∀s,z s→s<w0.heap.size∧¬F0 s∧¬Fo s∧s≠I∧s≠lb):aO F0 Fo z w0 w' I lb O cap sb S ps L:=by
 obtain⟨F,M,rs,j,N,T⟩:=h
 have W:∀s,z s→¬F s:=fun s J U=>by
  obtain⟨B,A,-⟩:=E s J;rcases N s U with q|q;·exact A q
  ·omega
 have s:=t.size;have s:=j.e2;refine⟨F,M,rs,⟨⟨j.bq.a8.a4 t (fun k B A=>W k A B),j.bq.b7.a4 t (fun k B A=>(E k A).2.2.1 B),j.bq.db,j.bq.n,j.bq.room⟩,j.perm,j.n6,j.bx,j.len,j.room,j.b2,j.cg,j.row.a4 t (fun g=>(E _ g).2.2.2.2 rfl),j.cells.a4 t (fun g=>(E _ g).2.2.2.1 rfl),j.nb,j.nl,by omega⟩,N,T.bg (t.mono (fun _ _ J=>.inr (.inr (.inr J))))⟩
theorem aO.ek {F0 Fo z:Nat→Prop}{w0 w:World}{j lb cap sb t:Nat}{s:Option Addr}{ps:List Int}{q:List (Int×List Bool)}(h:aO F0 Fo z w0 w j lb s cap sb t ps q):(ps.length≤6∧aF ps=true∧q.length≤4)∧fI w j s q.length cap sb t∧j<w.heap.size:=by
 obtain⟨F,M,rs,j,-⟩:=h;exact⟨⟨j.n6,j.perm,j.bx⟩,j.cells,j.e2.1⟩
theorem aO.start {F Fo:Nat→Prop}{w:World}{j lb cap sb t:Nat}{s:Option Addr}{M:St}{ps:List Int}{q:List (Int×List Bool)}{rs:List (Int×Edge)}(h:gK F Fo w j lb s cap sb t M ps q rs)(z:Nat→Prop):aO F Fo z w w j lb s cap sb t ps q:=
 ⟨F,M,rs,h,fun _ j=>.inl j,af.refl _ _⟩
def fH (ts:List Bool)(x j:Nat):Nat:=fY ((ts.drop (max x (64*j))).take (64*(j+1)-max x (64*j)))
theorem Eg (ts:List Bool)(j:Nat):fH ts ts.length j=0:=by
 unfold fH;rw[List.drop_of_length_le (by omega),List.take_nil];rfl
theorem Eh (ts:List Bool)(j:Nat):fH ts 0 j=fY ((ts.drop (64*j)).take 64):=by
 unfold fH;rw[show max 0 (64*j)=64*j by omega,show 64*(j+1)-64*j=64 by omega]
theorem uu {ts:List Bool}{x:Nat}{b:Bool}(j:ts[x]?=some b):fH ts x (x / 64)=(if b then 1 else 0)+2*fH ts (x+1) (x / 64):=by
 obtain⟨s,q⟩:=List.getElem?_eq_some_iff.1 j;unfold fH;rw[show max x (64*(x / 64))=x by omega,show max (x+1) (64*(x / 64))=x+1 by omega,List.drop_eq_getElem_cons s,q,show 64*(x / 64+1)-x=(64*(x / 64+1)-(x+1))+1 by omega,List.take_succ_cons];rfl
theorem Ee {ts:List Bool}{x j:Nat}(q:¬j=x / 64):fH ts x j=fH ts (x+1) j:=by
 unfold fH;by_cases h:x<64*j;·rw[show max x (64*j)=64*j by omega,show max (x+1) (64*j)=64*j by omega]
 ·rw[show 64*(j+1)-max x (64*j)=0 by omega,show 64*(j+1)-max (x+1) (64*j)=0 by omega,List.take_zero,List.take_zero]
theorem Ef (ts:List Bool)(x:Nat):fH ts (x+1) (x / 64)<2 ^ 63:=by
 unfold fH;have j:=o0 ((ts.drop (max (x+1) (64*(x / 64)))).take (64*(x / 64+1)-max (x+1) (64*(x / 64))));have q:((ts.drop (max (x+1) (64*(x / 64)))).take (64*(x / 64+1)-max (x+1) (64*(x / 64)))).length≤63:=by rw[iV];omega
 exact bI j (aW (by decide) q)
theorem uv {ts:List Bool}{t:List Int}{x:Nat}{b:Bool}{v y:Int}(A:∀(j:Nat) (v:Int),t[j]?=some v→v=(fH ts (x+1) j:Int))(B:ts[x]?=some b)(z:t[x / 64]?=some v)(E:y=(if b then 1 else 0)+2*v)(j:Nat)(u:Int)(q:(t.set (x / 64) y)[j]?=some u):u=(fH ts x j:Int):=by
 by_cases s:j=x / 64
 ·subst s;rw[gy (List.getElem?_eq_some_iff.1 z).1]at q;have t:=A _ v z;rw[←Option.some.inj q,E,uu B,t];cases b<;>simp
 ·rw[fK (fun e=>s e.symm)]at q;rw[Ee s];exact A j u q
theorem Ej {ts:List Bool}{x:Int}(h:x∈cZ ts):0≤x∧x<2 ^ 64:=by
 unfold cZ at h;obtain⟨w,_,rfl⟩:=List.mem_map.1 h;have j:=o0 ((ts.drop (64*w)).take 64);have j:((ts.drop (64*w)).take 64).length≤64:=by rw[iV];omega
 have q:2 ^ ((ts.drop (64*w)).take 64).length≤2 ^ 64:=aW (by decide) j;have j:(2:Nat) ^ 64=18446744073709551616:=rfl;have j:(2:Int) ^ 64=18446744073709551616:=rfl;omega
theorem Cp (n:Int)(S cap:Nat)(ts:List Bool)(w:World)(a5:bW w S ts)(bt:ts.length≤65536)(a8:1≤ts.length) :
  Calls Tryz.prog 46 #[.int .i64 n,.slice (some ⟨S,0,none⟩) ts.length cap] w fun e w'=>∃g,w.heap.size≤g∧e=.returned (.agg #[.int .i64 n,.slice (some ⟨g,0,none⟩) (cZ ts).length (cZ ts).length])∧bJ w' g (cZ ts)∧ae w w':=by
 have J:=m8 ts
 obtain⟨bD,q,b0,b1,b2⟩:=info_parts rB
 obtain⟨B,ab⟩:∃B,B=ts.length:=⟨_,rfl⟩
 rw[←ab]at bt a8 J ⊢
 obtain⟨K,a6⟩:∃K,K=(B+63) / 64:=⟨_,rfl⟩
 rw[←a6]at J
 rw[J]
 have av:=aa a5
 have a1:=aa ab
 have Z:=aa J
 have a7:((B:Int)+63) / 64=(K:Int):=by omega
 have a8:K≤1025:=by omega
 have a8:∀x:Nat,x<B→x / 64<K:=fun x bt=>by omega
 have bp:=aa a8
 clear a5 ab J a8 a6
 go_enter Tryz.func46,Tryz.ntmps46
 go_wp2_with (first
  |(at_make;refine wpList_make_full _ rfl _ _ 103 rfl (w.heap.size+1) 56 bD (.int .u64 0) 1 Tryz.underlying103 q b0 b1 .i64 .i64 _ _ K rfl rfl a7 a7 (by rw[b2];omega) (by unfold maxLen;omega) (by simp) ?_;intro w1 al N)
  |fail)
 rw[ai]at al
 have bq:=aa (ti al)
 have O:ae (w.alloc (.cells #[.int .i64 0,.slice none 0 0] 105)) w1:=⟨N.os,N.tape,N.output,N.size,fun i hi=>N.block i hi (by simp)⟩
 have a0:=aa (((ae.refl w).alloc _).trans O)
 have bf:=O.U (a:=⟨w.heap.size,0,none⟩) (v:=.int .i64 0)
 have bg:=O.U (a:=⟨w.heap.size,1,none⟩) (v:=.slice none 0 0)
 have bi:=fun o:Nat=>O.d' (a:=⟨w.heap.size,o,none⟩)
 have b3:=O.size
 simp only[ai]at b3
 clear al N O
 go_wp2_with fail
 go_loopg [6] B (fun gk N wr=>∃z:List Int,N=.int .i64 ((gk:Int)-1)∧gk≤B∧z.length=K∧(∀(j:Nat) (v:Int),z[j]?=some v→v=(fH ts gk j:Int))∧bJ wr (w.heap.size+1) z∧af (fun k=>k=w.heap.size+1) w1 wr)
 case atStart=>exact⟨List.replicate K 0,rfl,aE _,by simp,fun j v s=>by
  have q:j<K:=by have:=(List.getElem?_eq_some_iff.1 s).1;simpa using this
  rw[List.getElem?_replicate,ah q]at s;rw[←Option.some.inj s,a1.out,Eg]
  rfl,bq.out,af.refl _ _⟩
 case round=>
  obtain⟨z,rfl,a5,ab,al,N,O⟩:=hrel;have L:=aa N;have T:=aa O;have U:=aa al;have A:=aa ab;clear N O al ab;by_cases N:0<gk
  ·obtain⟨x,bw⟩:∃x,x=gk-1:=⟨_,rfl⟩;have bb:gk=x+1:=(by omega);have E:=aa bb;rw[show((gk:Int)-1)=(x:Int)from by omega];have be:x<B:=(by omega);have Y:=bp.out x be;obtain⟨v,s⟩:∃b,z[x / 64]?=some b:=⟨_,ar (by rw[A.out];exact Y)⟩;have am:=U.out _ v s;have bv:=Ef ts x;rw[E.out]at am;have B:0≤v:=by omega
   have B:v≤9223372036854775807:=by
    have B:(2:Nat) ^ 63=9223372036854775808:=rfl;omega
   obtain⟨b,W⟩:∃b,ts[x]?=some b:=⟨_,ar (by rw[←a1.out];exact be)⟩;have X:=(a0.out.new T.out (fun k bd=>by omega));have B:=(av.out.a4 (ae.av X (fun _=>False)) (fun h=>h)).cell W;have N:=L.out.cell s;have N:=L.out.frozen (x / 64);have bs:=aB B;have B:=L.out.lt;dsimp only at bs;have a3:=aa s;have B:=aa am;have aw:=aa W;have B:w.heap.size+1≠S:=fun e=>(by have:=av.out.lt;omega);have N:S≠w.heap.size+1:=fun e=>B e.symm;have B:=uu W;have N:=aa B;clear s am bv W bw bb B;cases b with
   |true=>
    go_wp2_with fail;go_roundg (gk-1)
    case rel=>
     refine⟨z.set (x / 64) (2*v+1),congrArg (Value.int .i64) (by have:=E.out;omega),by omega,by rw[bZ,A.out],fun j u q=>?_,?_,?_⟩
     ·have:=E.out;rw[show gk-1=x from by omega];exact uv (fun j v h=>by have t:=U.out j v h;rw[E.out]at t;exact t) aw.out a3.out (by simp;omega) j u q
     ·have:=(L.out.set (x / 64) (2*v) (by rw[A.out];exact Y)).set (x / 64) (2*v+1) (by rw[bZ,A.out];exact Y);rwa[List.set_set]at this
     ·exact(T.out.setCell (p:=⟨w.heap.size+1,x / 64,none⟩) (.inl rfl) _).setCell (p:=⟨w.heap.size+1,x / 64,none⟩) (.inl rfl) _
    case measure=>omega
   |false=>
    go_wp2_with fail;go_roundg (gk-1)
    case rel=>
     refine⟨z.set (x / 64) (2*v),congrArg (Value.int .i64) (by have:=E.out;omega),by omega,by rw[bZ,A.out],fun j u q=>?_,?_,?_⟩
     ·have:=E.out;rw[show gk-1=x from by omega];exact uv (fun j v h=>by have t:=U.out j v h;rw[E.out]at t;exact t) aw.out a3.out (by simp) j u q
     ·exact L.out.set (x / 64) (2*v) (by rw[A.out];exact Y)
     ·exact T.out.setCell (p:=⟨w.heap.size+1,x / 64,none⟩) (.inl rfl) _
    case measure=>omega
  ·have bx:gk=0:=(by omega);subst bx
   have a':z=cZ ts:=by
    apply List.ext_getElem?;intro j;by_cases q:j<K
    ·obtain⟨v,s⟩:∃b,z[j]?=some b:=⟨_,ar (by rw[A.out];exact q)⟩;have a4:=U.out j v s;rw[Eh]at a4;have t:=pU (ts:=ts) (w:=j) (by rw[←m8,Z.out];exact q);rw[dC]at t;obtain⟨u,z⟩:∃b,(cZ ts)[j]?=some b:=⟨_,ar (by rw[Z.out];exact q)⟩;rw[z]at t;rw[s,z,a4,←t];rfl
    ·rw[cO (by rw[A.out];omega),cO (by rw[Z.out];omega)]
   have ad:=L.out;rw[a']at ad;have I:=T.out;have b4:=I.cellAt (by omega) bf;have b5:=I.cellAt (by omega) bg;have j:=fun o:Nat=>I.frozen (a:=⟨w.heap.size,o,none⟩) (by dsimp only;omega) (by dsimp only;omega) (bi o);have X:=(a0.out.new I (fun k bd=>by omega));have j:=I.size;have J:w.heap.size<wr.heap.size:=(by omega);have br:=aa ad;have j:=aa I;have bn:=aa X;clear ad I X bf bg bi a';go_wp2_with fail;refine aq (v:=.agg #[.int .i64 n,.slice (some ⟨w.heap.size+1,0,none⟩) K K]) (by simp[results,Tryz.results46,go_sem,b4,b5,J]) rfl ⟨w.heap.size+1,by omega,rfl,?_,?_⟩;·exact br.out.a4 ((af.refl (fun k=>k=w.heap.size) wr).setCell (p:=⟨w.heap.size,0,none⟩) (.inl rfl) _ |>.setCell (p:=⟨w.heap.size,1,none⟩) (.inl rfl) _) (by omega)
   ·exact bn.out.new ((af.refl (fun k=>k=w.heap.size) wr).setCell (p:=⟨w.heap.size,0,none⟩) (.inl rfl) _ |>.setCell (p:=⟨w.heap.size,1,none⟩) (.inl rfl) _) (fun k bd=>by omega)
theorem nS {w:World}{U cap j:Nat}{av:Option Addr}{rs:List (Int×Edge)}(W:w.cell? ⟨U,2,none⟩=some (.slice av j cap))(Y:cA w av rs)(X:rs.length=j)(bq:j≤1048576) :
  Calls Tryz.prog 53 #[.pointer (some ⟨U,0,none⟩)] w fun e w'=>∃g,e=.returned (.slice (some ⟨g,0,none⟩) j j)∧w.heap.size≤g∧cB w' g (rs.map Prod.snd)∧ae w w':=by
 obtain⟨bd,ad,be,bf,bg⟩:=info_parts oH
 have a1:=aa Y
 have E:=aa X
 clear Y X
 go_enter Tryz.func53,Tryz.ntmps53
 go_wp2_with (first
  |(at_make;refine wpList_make_full _ rfl _ _ 34 rfl w.heap.size 52 bd (.agg #[.int .u8 0,.int .u32 0]) 2 Tryz.underlying34 ad be bf .i64 .i64 (j:Int) (j:Int) j rfl rfl rfl rfl (by rw[bg];omega) (by unfold maxLen;omega) (by simp) ?_;intro aw al s;have J:ae w aw:=⟨s.os,s.tape,s.output,s.size,fun i hi=>s.block i hi (by simp)⟩;have W:=J.cell W)
  |fail)
 have I:=sY al
 have a0:=aa J
 have O:=aa I
 have bi:=I.lt
 obtain⟨g,ab⟩:∃g,g=w.heap.size:=⟨_,rfl⟩
 have bp:w.heap.size≤g:=by omega
 rw[←ab]at O bi ⊢
 clear al s J I ab
 go_loopg [17] j (fun gk s wr=>∃(d:Nat) (es:List Edge),s=.int .i64 (d:Int)∧d+gk=j∧es.length=j∧cB wr g es∧(∀i,i<d→∀r,rs[i]?=some r→es[i]?=some r.2)∧af (fun t=>t=g) aw wr)
 case atStart=>exact⟨0,_,rfl,by omega,by simp,O.out,fun i hi=>by omega,af.refl _ _⟩
 case round=>
  obtain⟨d,es,rfl,U,O,s,J,I⟩:=hrel;have q:=aa O;have z:=aa s;have B:=aa J;have a3:=aa I;have U:ae w wr:=a0.out.new I (fun t ad=>by omega);have S:=aa U;have W:=s.lt;clear O s J I U;by_cases A:d<j
  ·obtain⟨r,N⟩:∃b,rs[d]?=some b:=⟨_,ar (by rw[E.out];exact A)⟩;obtain⟨a',bb,b,off,a8,a5,a6,a7⟩:=(a1.out.ad S.out) d r N;obtain⟨y,am⟩:∃b,es[d]?=some b:=⟨_,ar (by rw[q.out];exact A)⟩;obtain⟨s,I⟩:=z.out.cell am;have s:=z.out.frozen (d*2);have s:=z.out.frozen (d*2+1);have a4:=aa N;have s:wr.heap.size≠g:=(by omega);have s:g≠wr.heap.size:=(by omega);obtain⟨f,e⟩:=r;dsimp only at a5 a6 a7;subst a8;clear N am bb a';go_wp2_with fail;go_roundg (gk-1)
   case rel=>
    refine⟨d+1,es.set d e,by simp,by omega,by rw[bZ,q.out],?_,fun i hi bn L=>?_,?_⟩;·exact(z.out.set d e (by rw[q.out];exact A)).ad ((ae.refl _).alloc _)
    ·by_cases hid:i=d
     ·subst hid;rw[a4.out]at L;cases L;rw[gy (by rw[q.out];exact A)]
     ·rw[fK (fun e=>hid e.symm)];exact B.out i (by omega) bn L
    ·exact(dx (P:=fun t=>t=g) rfl (dx (P:=fun t=>t=g) rfl a3.out _ _) _ _).alloc _
   case measure=>omega
  ·have s:d=j:=by omega
   have Z:es=rs.map Prod.snd:=by
    apply List.ext_getElem?;intro i;by_cases hi:i<j
    ·have j:rs[i]?=some (rs[i]'(by rw[E.out];exact hi)):=ar _;rw[B.out i (by omega) _ j,dh,j];rfl
    ·rw[cO (by rw[q.out];omega),cO (by rw[fy,E.out];omega)]
   have j:cB wr g (rs.map Prod.snd)∧ae w wr:=⟨by rw[←Z];exact z.out,S.out⟩;have T:=aa j;clear Z j B q;go_wp2_with fail;go_ret;exact⟨g,rfl,bp,T.out.1,T.out.2⟩
def lT (rs j:List (Int×Edge))(es:List Edge):Prop:=j.length=rs.length∧∀(i:Nat) (r:Int×Edge) (e:Edge),rs[i]?=some r→es[i]?=some e→j[i]?=some (r.1,e)
theorem lT.snd {rs j:List (Int×Edge)}{es:List Edge}(h:lT rs j es)(q:es.length=rs.length):j.map Prod.snd=es:=by
 apply List.ext_getElem?;intro i;by_cases hi:i<rs.length
 ·have q:rs[i]?=some (rs[i]'hi):=ar _;have j:es[i]?=some (es[i]'(by omega)):=ar _;rw[dh,h.2 i _ _ q j,j];rfl
 ·rw[cO (by rw[fy,h.1];omega),cO (by omega)]
theorem vF {F:Nat→Prop}{w:World}{E lb cap sb bw s g:Nat}{U:Option Addr}{M:St}{rs:List (Int×Edge)}{es:List Edge}(S:fI w E U s cap sb bw)(bb:dq w U lb rs)(ad:cB w g es)(a5:rs.length=s)(a4:es.length=s)(br:s≤1048576)
  (a8:∀e∈es,e.ok) (h:ak F w sb M) (be:g≠lb) (bf:E≠lb) (bD:¬F g) (bg:¬F lb) (b0:¬F E) (bx:lb<w.heap.size) :
  Calls Tryz.prog 170 #[.pointer (some ⟨E,0,none⟩),.slice (some ⟨g,0,none⟩) s s] w fun e w'=>∃(F':Nat→Prop) (t:List (Int×Edge)),e=.returned (.tuple #[])∧lT rs t es∧dq w' U lb t∧ak F' w' sb (dG M (es.map Edge.to))∧(∀j,F' j→F j∨w.heap.size≤j)∧af (fun j=>F j∨j=lb) w w':=by
 have bw:=aB S.c0
 have a0:=aa h
 have J:=aa a5
 have X:=aa a4
 have am:=aa a8
 have W:=aa S
 have aw:=aa bb
 have Z:=aa ad
 have bw:=S.c2
 have bw:=ad.lt
 clear h a5 a4 a8 S bb ad
 go_enter Tryz.func170,Tryz.ntmps170
 go_wp2_with fail
 go_loopg [8] s (fun gk S wr=>∃(d:Nat) (t:List (Int×Edge)),S=.int .i64 (d:Int)∧d+gk=s∧t.length=s∧dq wr U lb t∧(∀(i:Nat) (r:Int×Edge) (e:Edge),rs[i]?=some r→es[i]?=some e→t[i]?=some (r.1,if i<d then e else r.2))∧af (fun j=>j=lb) w wr)
 case atStart=>exact⟨0,rs,rfl,by omega,J.out,aw.out,fun i r e z A=>by rw[ag (by omega)];exact z,af.refl _ _⟩
 case round=>
  obtain⟨d,t,rfl,a5,a4,U,ad,S⟩:=hrel;have I:=aa a4;have L:=aa U;have O:=aa ad;have B:=aa S;have a5:=S.size;clear a4 U ad S;by_cases T:d<s
  ·obtain⟨r,N⟩:∃b,t[d]?=some b:=⟨_,ar (by rw[I.out];exact T)⟩;obtain⟨e,al⟩:∃b,es[d]?=some b:=⟨_,ar (by rw[X.out];exact T)⟩;obtain⟨q,a'⟩:∃b,rs[d]?=some b:=⟨_,ar (by rw[J.out];exact T)⟩;obtain⟨bs,S,U,ad⟩:=L.out.cell N;have S:=L.out.frozen N (d*3+1);have S:=L.out.frozen N (d*3+2);obtain⟨S,U⟩:=(Z.out.a4 B.out be).cell al;have S:=(W.out.a4 B.out bf).c2;have S:g<wr.heap.size:=(by omega);have S:lb<wr.heap.size:=(by omega);have S:E<wr.heap.size:=(by omega);have S:wr.heap.size≠g:=(by omega);have S:wr.heap.size≠lb:=(by omega);have S:wr.heap.size≠E:=(by omega);have a1:=aa N;have a3:=aa al;have av:=aa a';subst bs;clear N al a';go_wp2_with fail;go_region;go_wp2_with fail;go_roundg (gk-1)
   case rel=>
    have bv:r.1=q.1:=by
     have:=O.out d q e av.out a3.out;rw[a1.out]at this;cases this;rfl
    refine⟨d+1,t.set d (r.1,e),by simp,by omega,by rw[bZ,I.out],?_,fun i p x z A=>?_,?_⟩;·exact(L.out.set a1.out e).ad (((ae.refl _).alloc _).drew)
    ·by_cases hid:i=d
     ·subst hid;rw[av.out]at z;rw[a3.out]at A;cases z;cases A;rw[gy (by rw[I.out];exact T),ah (by omega),bv]
     ·rw[fK (fun e=>hid e.symm),O.out i p x z A];by_cases E:i<d;·rw[ah E,ah (by omega)]
      ·rw[ag E,ag (by omega)]
    ·exact((dx (P:=fun j=>j=lb) rfl (dx (P:=fun j=>j=lb) rfl B.out _ _) _ _).alloc _).drew
   case measure=>omega
  ·have ad:d=s:=by omega
   have T:lT rs t es:=⟨by rw[I.out,J.out],fun i r e z A=>by
    have:=O.out i r e z A;rw[ah (by have:=(List.getElem?_eq_some_iff.1 z).1;rw[J.out]at this;omega)]at this
    exact this⟩
   have N:=a0.out.a4 B.out (fun k z A=>bg (A ▸ z));have E:=Z.out.a4 B.out be;have S:∀z,ae wr z→fu z (some ⟨g,0,none⟩) s es:=fun z A=>⟨X.out,fun i e U=>((E.ad A).at am.out) i e U⟩;have U:=fun(z:World) (A:ae wr z)=>tN (N.ad A) (some ⟨g,0,none⟩) s s es (S z A) br;have s:=(W.out.a4 B.out bf).c0;have bq:=aa U;have bn:=aa T;have s:lb<wr.heap.size:=(by omega);clear U T S N E ad O X J am Z W a0 aw I;go_wp2_with fail;refine(bq.out _ kp).mono ?_;rintro e bi ⟨rfl,ab,a6⟩;have a7:af (fun j=>F j∨j=lb) w bi:=(B.out.mono (fun k _ s=>.inr s)).bg (ab.mono (fun k _ s=>.inl s));have Y:=aa (⟨L.out.a4 ab bg,a6,a7⟩:_∧_∧_)
   have bd:∀j,aC F wr bi j→F j∨w.heap.size≤j:=fun j bt=>by
    rcases bt with q|q;·exact .inl q
    ·exact .inr (by omega)
   have bp:=aa bd;clear ab a6 a7 bd;go_wp2_with fail;first|go_end0|refine aq (results_none rfl _ _ _) rfl ?_
   exact⟨_,t,rfl,bn.out,Y.out.1,Y.out.2.1,bp.out,Y.out.2.2⟩
def dg (j:List Int→Nat)(g:Nat):Nat→List Int→Nat→Nat→Nat→List Int×Nat×Nat×Nat
 |0,ps,a,b,m=>(ps,a,b,m)
 |k+1,ps,a,b,m=>
  if(100+g)*min m (j (aK ps a))<100*j (aK ps a)then(aK ps a,a+1,if j (aK ps a)<m then a+1 else b,min m (j (aK ps a)))
  else dg j g k (aK ps a) (a+1) (if j (aK ps a)<m then a+1 else b) (min m (j (aK ps a)))
def fG (j:List Int→Nat)(g:Nat):Nat→List Int→Nat→Nat→List Int×Nat×Nat×Nat
 |0,ps,b,m=>(ps,0,b,m)
 |a+1,ps,b,m=>
  if(100+g)*min m (j (aK ps a))<100*j (aK ps a)then(aK ps a,a,if j (aK ps a)<m then a else b,min m (j (aK ps a)))
  else fG j g a (aK ps a) (if j (aK ps a)<m then a else b) (min m (j (aK ps a)))
structure qe (n:Nat)(p0:List Int)(m:Nat)(t:List Int×Nat×Nat×Nat):Prop where
 len:t.1.length=n
 perm:aF p0=true→aF t.1=true
 ch:t.2.1<n
 eR:t.2.2.1<n
 e1:t.2.2.2≤m
theorem t' (q:List Int→Nat)(g n:Nat):∀(k:Nat) (ps:List Int) (a b m:Nat),ps.length=n→a+k+1=n→b<n→qe n ps m (dg q g k ps a b m):=by
 intro k;induction k with
 |zero=>intro ps a b m j z s;exact⟨j,fun h=>h,by show a<n;omega,s,aE _⟩
 |succ k A=>
  intro ps a b m j z s;have t:(if q (aK ps a)<m then a+1 else b)<n:=by split<;>omega
  unfold dg;split;·exact⟨by rw[eK];exact j,jK (by omega),by show a+1<n;omega,t,Nat.min_le_left _ _⟩
  ·have h:=A (aK ps a) (a+1) (if q (aK ps a)<m then a+1 else b) (min m (q (aK ps a))) (by rw[eK];exact j) (by omega) t;exact⟨h.len,fun j=>h.perm (jK (by omega) j),h.ch,h.eR,eF h.e1 (Nat.min_le_left _ _)⟩
theorem ub (q:List Int→Nat)(g n:Nat):∀(a:Nat) (ps:List Int) (b m:Nat),ps.length=n→a<n→b<n→qe n ps m (fG q g a ps b m):=by
 intro a;induction a with
 |zero=>intro ps b m j s t;exact⟨j,fun h=>h,s,t,aE _⟩
 |succ a A=>
  intro ps b m j s t;have z:(if q (aK ps a)<m then a else b)<n:=by split<;>omega
  unfold fG;split;·exact⟨by rw[eK];exact j,jK (by omega),by show a<n;omega,z,Nat.min_le_left _ _⟩
  ·have h:=A (aK ps a) (if q (aK ps a)<m then a else b) (min m (q (aK ps a))) (by rw[eK];exact j) (by omega) z;exact⟨h.len,fun j=>h.perm (jK (by omega) j),h.ch,h.eR,eF h.e1 (Nat.min_le_left _ _)⟩
def lA (q:List Int→Nat)(g:Nat)(ps:List Int)(a:Nat):List Int:=
 let j:=dg q g (ps.length-1-a) ps a a (q ps)
 let u:=fG q g j.2.1 j.1 j.2.2.1 j.2.2.2
 bu u.1 (eu u.2.1 u.2.2.1)
theorem Af (j:List Int→Nat)(g:Nat){ps:List Int}{a:Nat}(s:a<ps.length):(lA j g ps a).length=ps.length∧(aF ps=true→aF (lA j g ps a)=true):=by
 have q:=t' j g ps.length (ps.length-1-a) ps a a (j ps) rfl (by omega) s;have u:=ub j g ps.length _ _ (dg j g (ps.length-1-a) ps a a (j ps)).2.2.1 (dg j g (ps.length-1-a) ps a a (j ps)).2.2.2 q.len q.ch q.eR;refine⟨(gg _ _).trans u.len,fun j=>tj _ _ (fun t s=>?_) (u.perm (q.perm j))⟩;rw[u.len];exact zP u.ch u.eR s
def jk (j:List Int→Nat)(g:Nat)(ps:List Int):Nat→List Int
 |0=>ps
 |v+1=>lA j g (jk j g ps v) ((jk j g ps v).idxOf (v:Int))
theorem tF (j:List Int→Nat)(g:Nat){ps:List Int}(z:aF ps=true):∀v,v≤ps.length→(jk j g ps v).length=ps.length∧aF (jk j g ps v)=true:=by
 intro v;induction v with
 |zero=>intro _;exact⟨rfl,z⟩
 |succ v A=>
  intro z;obtain⟨s,q⟩:=A (by omega);have z:=sK q (v:=(v:Int)) (by omega) (by omega);have t:(jk j g ps v).idxOf (v:Int)<(jk j g ps v).length:=List.idxOf_lt_length_of_mem z;obtain⟨z,A⟩:=Af j g t;exact⟨z.trans s,A q⟩
noncomputable def bh (M:St):List (Int×Edge)→Int
 |[]=>0
 |r::rs=>if aR r.1=false then 4 else if dX M r.1 r.2 0=false then 1 else bh M rs
theorem kh (M:St)(r:Int×Edge)(rs:List (Int×Edge)):bh M (r::rs)=if aR r.1=false then 4 else if dX M r.1 r.2 0=false then 1 else bh M rs:=rfl
theorem kI {F:Nat→Prop}{w:World}{sb:Nat}{M:St}(h:ak F w sb M)(a:Option Addr)(cap:Nat)(rs:List (Int×Edge))(al:cA w a rs)(a1:rs.length≤1048576) :
  Calls Tryz.prog 49 #[.pointer (some ⟨sb,0,none⟩),.slice a rs.length cap] w fun e w'=>e=.returned (.int .u8 (bh M rs))∧ae w w':=by
 have am:=aa (fun(f:Int) (v:Edge) (a4:v.ok) (J:World) (ab:ae w J)=>qz (h.ad ab) f v 0 a4)
 obtain⟨z,Z⟩:∃z,z=rs.length:=⟨_,rfl⟩
 rw[←Z]at a1 ⊢
 have av:=aa al
 have ad:=aa Z
 clear h al Z
 go_enter Tryz.func49,Tryz.ntmps49
 go_wp2
 go_loopg [9] z (fun gk Z wr=>∃d:Nat,Z=.int .i64 (d:Int)∧d+gk=z∧bh M (rs.drop d)=bh M rs∧ae w wr)
 case atStart=>exact⟨0,rfl,by omega,rfl,kp⟩
 case round=>
  obtain⟨d,rfl,Z,j,O⟩:=hrel;have U:=aa j;clear j;by_cases a3:d<z
  ·obtain⟨r,E⟩:∃b,rs[d]?=some b:=⟨_,ar (by rw[←ad.out];exact a3)⟩;obtain⟨aw,B,b,off,rfl,W,X,Y⟩:=av.out d r E;replace W:=O.cell W;replace X:=O.cell X;replace Y:=O.cell Y
   have N:rs.drop d=r::rs.drop (d+1):=by
    obtain⟨hi,z⟩:=List.getElem?_eq_some_iff.1 E;rw[List.drop_eq_getElem_cons hi,z]
   have j:=U.out;rw[N]at j;rw[kh]at j;obtain⟨f,e⟩:=r;have q:=jg f;have s:=fun(J:World) (ab:ae w J)=>am.out f e B J ab;dsimp only at aw B W X Y j;cases A:aR f with
   |false=>
    rw[A]at q j;have I:=aa q;have t:Hid (bh M rs=4):=aa (by rw[←j];simp);clear j q s N E B A;go_wp2_with (first|(go_at_call 100;refine(I.out _).mono ?_;rintro L w' ⟨rfl,rfl⟩)|fail)
    go_ret;exact⟨by rw[t.out];rfl,kp⟩
   |true=>
    rw[A]at q j;have I:=aa q;cases S:dX M f e 0 with
    |false=>
     rw[S]at s j;have T:=aa s;have t:Hid (bh M rs=1):=aa (by rw[←j];simp);clear j q s N E B A S;go_wp2_with (first|(go_at_call 100;refine(I.out _).mono ?_;rintro L w' ⟨rfl,rfl⟩)|(go_at_call 92;refine(T.out _ kp).mono ?_;rintro L a5 ⟨rfl,a0⟩)|fail)
     go_ret;exact⟨by rw[t.out];rfl,kp⟩
    |true=>
     rw[S]at s j;have T:=aa s;have t:Hid (bh M (rs.drop (d+1))=bh M rs):=aa (by rw[←j];simp);clear j q s N E B A S;go_wp2_with (first|(go_at_call 100;refine(I.out _).mono ?_;rintro L w' ⟨rfl,rfl⟩)|(go_at_call 92;refine(T.out _ kp).mono ?_;rintro L a5 ⟨rfl,a0⟩)|fail)
     go_roundg (gk-1)
     case rel=>exact⟨d+1,by simp,by omega,t.out,kp⟩
     case measure=>omega
  ·have t:Hid (bh M rs=0):=aa (by rw[←U.out,List.drop_of_length_le (by rw[←ad.out];omega)];rfl);clear U;go_wp2_with fail;go_ret;exact⟨by rw[t.out];rfl,O⟩
theorem mT {F Fo:Nat→Prop}{w:World}{sb z:Nat}{M:St}{ps:List Int}(h:ak F w sb M)(E:ba Fo w z ps) :
  Calls Tryz.prog 47 #[.pointer (some ⟨sb,0,none⟩),.pointer (some ⟨z,0,none⟩)] w fun e w'=>e=.returned (.int .u8 (if M.n=(ps.length:Int)then 0 else 1))∧ae w w':=by
 have t:=aa (fun(z:World) (B:ae w z)=>dw (h.ad B))
 have s:=aa (fun(z:World) (B:ae w z)=>lC (E.ad B))
 have L:=h.wf.n0
 have N:=h.wf.bw
 have O:=E.le
 obtain⟨j,I⟩:∃j,j=ps.length:=⟨_,rfl⟩
 obtain⟨n,J⟩:∃n,n=M.n:=⟨_,rfl⟩
 rw[←I]at s O ⊢
 rw[←J]at t L N ⊢
 clear h E I J
 by_cases q:n=(j:Int)
 ·rw[ah q];subst q;go_enter Tryz.func47,Tryz.ntmps47;go_wp2_with (first|(go_at_call 48;refine(t.out _ kp).mono ?_;rintro A w' ⟨rfl,rfl⟩)|(go_at_call 99;refine(s.out _ kp).mono ?_;rintro A w' ⟨rfl,rfl⟩)|fail)
  go_ret;exact⟨rfl,kp⟩
 ·rw[ag q];have z:(n !=(j:Int))=true:=by simp[q]
  go_enter Tryz.func47,Tryz.ntmps47;go_wp2_with (first|(go_at_call 48;refine(t.out _ kp).mono ?_;rintro A w' ⟨rfl,rfl⟩)|(go_at_call 99;refine(s.out _ kp).mono ?_;rintro A w' ⟨rfl,rfl⟩)|fail)
  go_ret;exact⟨rfl,kp⟩
theorem te {w:World}{A g q cap:Nat}{rs:List (Int×Edge)}(h:w.ownsRow A 55 3 (.slice (some ⟨g,0,none⟩) q cap) q (rs.flatMap cR))(J:q=rs.length):dq w (some ⟨g,0,none⟩) g rs:=fun q=>by
 refine⟨rfl,?_⟩;rcases h.2 with⟨s,_⟩|⟨A,q,t,s,J,B,_,_,_,E⟩
 ·cases s
 ·cases s;refine⟨t,B,fun i r z=>?_⟩;have hi:=(List.getElem?_eq_some_iff.1 z).1
  have key:∀j,j<3→t[i*3+j]?=(cR r)[j]?:=fun j I=>by
   rw[←en cR 3 (fun _=>rfl) rs i j r z I,←E,ju,ah (by omega),Array.getElem?_toList]
  exact⟨key 0 (by omega),key 1 (by omega),key 2 (by omega)⟩
theorem B5 {w:World}{b off:Nat}{rs:List (Int×Edge)}(t:cA w (some ⟨b,off,none⟩) rs)(j:Nat)(u:Value)(h:(rs.flatMap cR)[j]?=some u):w.cell? ⟨b,off+j,none⟩=some u:=by
 have J:(rs.flatMap cR).length=rs.length*3:=by
  clear t h;induction rs with
  |nil=>rfl
  |cons r rs I=>rw[List.flatMap_cons,di,I,dm];show 3+_=_;omega
 have I:=(List.getElem?_eq_some_iff.1 h).1;rw[J]at I;have hi:j / 3<rs.length:=by omega
 have z:rs[j / 3]?=some rs[j / 3]:=ar hi;obtain⟨I,J,b',N,e,A,B,E⟩:=t _ _ z;cases e;have s:=en cR 3 (fun _=>rfl) rs (j / 3) (j%3) _ z (by omega);rw[show j / 3*3+j%3=j by omega,h]at s;have L:j%3=0∨j%3=1∨j%3=2:=by omega
 rcases L with q|q|q
 ·rw[q]at s;rw[show off+j=off+j / 3*3 by omega,A];exact s.symm
 ·rw[q]at s;rw[show off+j=off+j / 3*3+1 by omega,B];exact s.symm
 ·rw[q]at s;rw[show off+j=off+j / 3*3+2 by omega,E];exact s.symm
theorem zt {F Fo:Nat→Prop}{w E j w':World}{sb W s lb cap:Nat}{T:Option Addr}{M:St}{ps:List Int}{t:List (Int×List Bool)}{rs:List (Int×Edge)}(hS:fV F Fo w sb W M ps)(al:aF ps=true)(X:ps.length≤6)(a1:t.length≤4)(a5:(t.length:Int)*300<M.room)(a8:M.room≤1000000)(am:cL M ps t rs)
  (J:ae w E) (a6:dq E T lb rs) (ab:fI j s T t.length cap sb W) (B:ae E j) (a':E.heap.size≤s) (O:w.heap.size≤lb) (bb:lb<E.heap.size)
  (z:af F j w') (Z:ak (aC F j w') w' sb (dG M ((rs.map Prod.snd).map Edge.to))):aO F Fo (fun _=>False) w w' s lb T cap sb W ps t:=by
 have S:=hS.a8
 have t:=S.lt
 have ad:=hS.b7.lt
 have E:=J.size
 have E:=B.size
 have E:=z.size
 have a3:s<j.heap.size:=aB ab.c0
 have U:∀k,w.heap.size≤k→¬F k:=fun k N A=>by have:=t k A;omega
 have av:∀k,w.heap.size≤k→¬Fo k:=fun k N A=>by have:=ad k A;omega
 have aw:∀k,w.heap.size≤k→k<j.heap.size→¬aC F j w' k:=fun k a0 t A=>by
  rcases A with q|q;·exact U k a0 q
  ·omega
 have Y:=S.ad (J.trans B)
 have a7:=am.size Y al hS.n X (by have:=S.wf.cS;omega)
 refine⟨aC F j w',dG M ((rs.map Prod.snd).map Edge.to),rs,⟨⟨Z,((hS.b7.ad J).ad B).a4 z (fun k L I=>hS.db k I L),fun k L I=>?_,hS.n,hS.room⟩,al,X,a1,?_,a5,a8,am.e8 Z.wf,(a6.ad B).a4 z (U lb O),ab.a4 z (U s (by omega)),⟨aw s (by omega) a3,av s (by omega),by omega⟩,⟨aw lb O (by omega),av lb O⟩,by omega⟩,fun j a4=>?_,?_⟩
 ·rcases L with q|q;·exact hS.db k q I
  ·have:=ad k I;omega
 ·rw[tS Y];exact_mod_cast a7.1
 ·rcases a4 with q|q;·exact .inl q
  ·exact .inr (by omega)
 ·exact((J.trans B).av _).bg (z.mono (fun k _ N=>.inl N))
theorem tC {F Fo:Nat→Prop}{w:World}{sb J cap3:Nat}{al:Option Addr}{M:St}{ps:List Int}{z:List (Int×List Bool)}{rs:List (Int×Edge)}(hS:fV F Fo w sb J M ps)(cd:aF ps=true)(cj:ps.length≤6)(b3:z.length≤4)(ce:(z.length:Int)*300<M.room)(cf:M.room≤1000000)(a4:cL M ps z rs)(b5:cA w al rs)(a7:al=none→cap3=0) :
  Calls Tryz.prog 50 #[.pointer (some ⟨sb,0,none⟩),.pointer (some ⟨J,0,none⟩),.slice al z.length cap3] w fun e w'=>∃(I lb cap:Nat) (U:Option Addr),e=.returned (.pointer (some ⟨I,0,none⟩))∧aO F Fo (fun _=>False) w w' I lb U cap sb J ps z∧w.heap.size≤I∧w.heap.size≤lb:=by
 obtain⟨ch,hi,c0,cg,c1⟩:=info_parts oI
 have bp:=fun(j s w':World) (I lb cap:Nat) (U:Option Addr) (B:ae w j) (X:dq j U lb rs) (cp:fI s I U z.length cap sb J) (c2:ae j s) (co:j.heap.size≤I) (cx:w.heap.size≤lb) (cy:lb<j.heap.size) (cn:af F s w') (cl:ak (aC F s w') w' sb (dG M ((rs.map Prod.snd).map Edge.to)))=>zt hS cd cj b3 ce cf a4 B X cp c2 co cx cy cn cl
 have bv:∀r∈rs,(0≤r.1∧r.1≤255)∧r.2.ok:=fun r T=>⟨by have:=(a4.leads r T).1;omega,a4.fE r T⟩
 have a3:=a4.1
 have A:=fun(s:World) (g:Nat) (cj:ae w s) (cl:cB s g (rs.map Prod.snd))=>tN (hS.a8.ad cj) (some ⟨g,0,none⟩) z.length z.length (rs.map Prod.snd) ⟨by rw[fy,a3],fun i e bq=>(cl.at (fun e bq=>by obtain⟨r,T,rfl⟩:=List.mem_map.1 bq;exact(bv r T).2)) i e bq⟩ (by omega)
 have br:=fun(s:World) (I lb cap:Nat) (U:Option Addr) (X:dq s U lb rs) (bq:s.cell? ⟨I,2,none⟩=some (.slice U z.length cap))=>nS bq (X.roots bv) a3 (by omega)
 obtain⟨E,b4⟩:∃E,E=z.length:=⟨_,rfl⟩
 rw[←b4]at b3 bp A br a3 ⊢
 have bb:=aa bp
 have bg:=aa A
 have bd:=aa br
 have Z:=aa b5
 have ab:=aa a3
 have b9:∀(s:World),s.heap[w.heap.size]?=some (.cells #[] 55 (0,0))→s.ownsRow w.heap.size 55 3 (.slice (some ⟨w.heap.size,0,none⟩) 0 0) 0 []:=fun s h=>⟨rfl,.inr ⟨w.heap.size,0,#[],rfl,aE _,h,aE _,by decide,rfl,rfl⟩⟩
 have a5:=aa b9
 have ca:(w.alloc (.cells #[] 55 (0,0))).heap[w.heap.size]?=some (.cells #[] 55 (0,0)):=by show(w.heap.push _)[w.heap.size]?=_;simp
 have a6:=aa ca
 clear bp A br b5 hS cd a4 ce cf bv b4 a3 b9 ca
 by_cases b2:E=0
 ·subst b2;have cD:rs=[]:=List.eq_nil_of_length_eq_zero ab.out;have cb:al=none→(0:Nat)=0∧cap3=0:=fun h=>⟨rfl,a7 h⟩;subst cD;clear a7 Z;go_enter Tryz.func50,Tryz.ntmps50
  go_wp2_with (first
   |(at_builtin;go_loud (refine wpList_append_fits_any _ rfl _ _ 31 rfl w.heap.size 55 ch 3 Tryz.underlying31 hi cg w.heap.size 0 0 [] rfl (a5.out _ a6.out) al 0 cap3 [] rfl rfl cb (fun _ _ ci u h=>by simp at h) (fun u h=>by simp at h) (aE _) ?_);intro j a1 t)
   |fail)
  have bs:w.heap.size<j.heap.size:=by have:=t.size;simp at this;omega
  have B:ae w j:=ae.new (F:=fun k=>some w.heap.size=some k) ((ae.refl w).alloc _) ⟨t.os,t.tape,t.output,t.size,fun k N bt=>t.block k N (fun e=>bt e.symm)⟩ (fun k N=>by cases N;exact aE _);have ad:Hid (dq j (some ⟨w.heap.size,0,none⟩) w.heap.size []):=aa (fun h=>absurd rfl h);have Y:=aa B;have bx:=B.size;clear a1 t B a5 a6 cb;have L:fI (j.alloc (.cells #[.pointer (some ⟨sb,0,none⟩),.pointer (some ⟨J,0,none⟩),.slice (some ⟨w.heap.size,0,none⟩) 0 0,.int .u8 0] 115 (0,0))) j.heap.size (some ⟨w.heap.size,0,none⟩) 0 0 sb J:=⟨by simp[go_sem],by simp[go_sem],by simp[go_sem],by simp[go_sem]⟩;have a':=aa L;refine(bd.out _ _ _ _ _ (ad.out.ad ((ae.refl _).alloc _)) L.c2).mono ?_;clear L;rintro e W ⟨bn,rfl,cv,av,S⟩;have bf:=aa S;have O:ae j W:=((ae.refl _).alloc _).trans S;have A:=bg.out W bn (Y.out.trans O) av;have bi:=aa A;have be:=aa O;clear A S O av;go_wp2_with fail;refine bi.out.mono ?_;rintro e bD ⟨rfl,a0,aw⟩;have am:=bb.out j W bD j.heap.size w.heap.size 0 (some ⟨w.heap.size,0,none⟩) Y.out ad.out (a'.out.ad bf.out) be.out (aE _) (aE _) bs a0 aw;have a8:=aa am;clear a0 aw am;go_wp2_with fail;go_ret;exact⟨_,_,_,_,rfl,a8.out,bx,aE _⟩
 ·obtain⟨c3,bw⟩:∃r,rs[0]?=some r:=⟨_,ar (by rw[ab.out];omega)⟩;obtain⟨_,_,b,off,rfl,_⟩:=Z.out 0 c3 bw
  have b8:(rs.flatMap cR).length=E*3:=by
   rw[←ab.out];clear bb bg bd Z ab bw a7;induction rs with
   |nil=>rfl
   |cons r rs s=>rw[List.flatMap_cons,di,s,dm];show 3+_=_;omega
  have cc:∀u∈rs.flatMap cR,u.oneCell'=true:=fun u cS=>by
   obtain⟨r,_,T⟩:=List.mem_flatMap.1 cS;simp only[cR,List.mem_cons,List.not_mem_nil,or_false]at T;rcases T with rfl|rfl|rfl<;>rfl
  have b0:=aa b8;have b1:=aa cc;have cE:0<E:=by omega
  clear bw b8 cc b2 a7;go_enter Tryz.func50,Tryz.ntmps50
  go_wp2_with (first
   |(at_builtin;go_loud (refine wpList_append_lies _ rfl _ _ 31 rfl w.heap.size 55 ch (.agg #[.int .u8 0,.int .u8 0,.int .u32 0]) 3 12 Tryz.underlying31 hi c0 cg c1 rfl (by decide) (.slice (some ⟨w.heap.size,0,none⟩) 0 0) 0 [] rfl (a5.out _ a6.out) ⟨b,off,none⟩ E cap3 (rs.flatMap cR) rfl b0.out (fun ci u h=>by rw[Addr.add_lit];exact B5 (Z.out.ad ((ae.refl w).alloc _)) ci u h) b1.out cE (by unfold maxLen;omega) (by omega) (by simp) (w.heap.size+1) (by simp) ?_);intro g cap j a1 t b7 bs)
   |fail)
  rw[dK,List.nil_append]at a1
  have b6:w.heap.size≤g:=by
   rcases b7 with q|q;·simp[Value.ownBlock]at q;omega
   ·omega
  have X:=te a1 ab.out.symm;have B:ae w j:=ae.new (F:=fun k=>Value.ownBlock (.slice (some ⟨w.heap.size,0,none⟩) 0 0)=some k) ((ae.refl w).alloc _) ⟨t.os,t.tape,t.output,t.size,fun k N bt=>t.block k N (fun e=>bt e.symm)⟩ (fun k N=>by simp[Value.ownBlock]at N;omega);have ad:=aa X;have Y:=aa B;have bx:=B.size;clear a1 t b7 X B b0 b1 a5 a6 Z;have L:fI (j.alloc (.cells #[.pointer (some ⟨sb,0,none⟩),.pointer (some ⟨J,0,none⟩),.slice (some ⟨g,0,none⟩) E cap,.int .u8 0] 115 (0,0))) j.heap.size (some ⟨g,0,none⟩) E cap sb J:=⟨by simp[go_sem],by simp[go_sem],by simp[go_sem],by simp[go_sem]⟩;have a':=aa L;refine(bd.out _ _ _ _ _ (ad.out.ad ((ae.refl _).alloc _)) L.c2).mono ?_;clear L;rintro e W ⟨bn,rfl,cv,av,S⟩;have bf:=aa S;have O:ae j W:=((ae.refl _).alloc _).trans S;have A:=bg.out W bn (Y.out.trans O) av;have bi:=aa A;have be:=aa O;clear A S O av;go_wp2_with fail;refine bi.out.mono ?_;rintro e bD ⟨rfl,a0,aw⟩;have am:=bb.out j W bD j.heap.size g cap (some ⟨g,0,none⟩) Y.out ad.out (a'.out.ad bf.out) be.out (aE _) b6 bs a0 aw;have a8:=aa am;clear a0 aw am;go_wp2_with fail;go_ret;exact⟨_,_,_,_,rfl,a8.out,bx,b6⟩
theorem CR {F:Nat→Prop}{w:World}{sb:Nat}{M:St}(h:ak F w sb M)(a:Option Addr)(cap:Nat)(rs:List (Int×Edge))(t:cA w a rs)(A:rs.length≤1048576)(s:bh M rs≠0) :
  Calls Tryz.prog 19 #[.pointer (some ⟨sb,0,none⟩),.slice a rs.length cap] w fun e w'=>e=.returned (.tuple #[.int .i64 0,.int .u8 (bh M rs)])∧ae w w':=by
 have j:=aa (kI h a cap rs t A)
 obtain⟨c,q⟩:∃c,c=bh M rs:=⟨_,rfl⟩
 rw[←q]at s j ⊢
 have A:(c != 0)=true:=by simpa using s
 clear q h t
 go_enter Tryz.func19,Tryz.ntmps19
 go_wp2_with (first|(go_at_call 49;refine j.out.mono ?_;rintro e w1 ⟨rfl,z⟩)|fail)
 go_ret2
 exact⟨rfl,z⟩
theorem tE {F:Nat→Prop}{w:World}{sb:Nat}{M:St}(h:ak F w sb M)(a:Option Addr)(cap:Nat)(rs:List (Int×Edge))(s:cA w a rs)(q:rs.length≤1048576)(S:bh M rs=0) :
  Calls Tryz.prog 19 #[.pointer (some ⟨sb,0,none⟩),.slice a rs.length cap] w fun e w'=>e=.returned (.tuple #[.int .i64 ((aU M.cs ((rs.map Prod.snd).map Edge.to)).length:Int),.int .u8 0])∧ae w w':=by
 have B:=kI h a cap rs s q
 rw[S]at B
 have T:∀e∈rs.map Prod.snd,e.ok:=fun e A=>by
  obtain⟨r,Z,rfl⟩:=List.mem_map.1 A;obtain⟨i,hi⟩:=List.mem_iff_getElem?.1 Z;exact(s i r hi).2.1
 have N:=fun(j:World) (Z:Nat) (z:ae w j) (ab:j.cell? ⟨Z,2,none⟩=some (.slice a rs.length cap))=>nS ab (s.ad z) rfl q
 have U:=fun(j:World) (g:Nat) (z:ae w j) (O:cB j g (rs.map Prod.snd))=>mL (h.ad z) (some ⟨g,0,none⟩) rs.length rs.length (rs.map Prod.snd) ⟨by rw[fy],fun i e A=>(O.at T) i e A⟩ q
 have I:=aa B
 have E:=aa N
 have t:=aa U
 obtain⟨j,L⟩:∃j,j=rs.length:=⟨_,rfl⟩
 rw[←L]at I E t q ⊢
 obtain⟨j,J⟩:∃j,j=aU M.cs ((rs.map Prod.snd).map Edge.to):=⟨_,rfl⟩
 rw[←J]at t ⊢
 clear h s S B T N U L J
 go_enter Tryz.func19,Tryz.ntmps19
 go_wp2_with (first|(go_at_call 49;refine I.out.mono ?_;rintro e w1 ⟨rfl,ad⟩)|fail)
 refine(E.out _ _ kp (by simp[go_sem])).mono ?_
 rintro e W ⟨g,rfl,O,q,s⟩
 have j:ae w W:=(show ae w _ from ad.alloc _).trans s
 have Y:=aa (t.out W g j q)
 have X:=aa j
 clear q s j
 go_wp2_with fail
 refine Y.out.mono ?_
 rintro e j ⟨v,rfl,⟨am,av,rfl,-⟩,al⟩
 go_wp2_with fail
 go_ret2
 exact⟨rfl,X.out.trans al⟩
theorem nat_bit (m k:Nat):((m:Int) / 2 ^ k%2==1)=m.testBit k:=by
 rw[Nat.testBit_eq_decide_div_mod_eq];have e:(m:Int) / 2 ^ k%2=((m / 2 ^ k%2:Nat):Int):=by push_cast;rfl
 rw[e];rcases Nat.mod_two_eq_zero_or_one (m / 2 ^ k)with h|h<;>rw[h]<;>rfl
def eO (ws:List Int)(x:Nat):List Int:=ws.set (x / 64) (((ws.getD (x / 64) 0).toNat ||| 2 ^ (x%64):Nat):Int)
theorem uK (ws:List Int)(x:Nat):(eO ws x).length=ws.length:=by unfold eO;simp
def iA (n:Nat)(ws:List Int):Prop:=(∀x∈ws,0≤x∧x<2 ^ 64)∧(6≤n∨ws.getD 0 0<2 ^ 2 ^ n)
theorem iA.ch {n:Nat}{ws:List Int}(h:iA n ws)(i:Nat):0≤ws.getD i 0∧ws.getD i 0<2 ^ 64:=by
 rw[dC];cases hi:ws[i]? with
 |none=>decide
 |some x=>exact h.1 x (bB hi)
theorem uL {n:Nat}{ws:List Int}{x:Nat}(h:iA n ws)(B:x<2 ^ n)(j:x / 64<ws.length):iA n (eO ws x):=by
 have s:=h.ch (x / 64);have B:(2:Int) ^ 64=18446744073709551616:=rfl;have B:(2:Nat) ^ 64=18446744073709551616:=rfl;refine⟨fun y t=>?_,?_⟩
 ·rcases List.mem_or_eq_of_mem_set t with q|q;·exact h.1 y q
  ·subst q;have z:(ws.getD (x / 64) 0).toNat ||| 2 ^ (x%64)<2 ^ 64:=Nat.or_lt_two_pow (by omega) (Nat.pow_lt_pow_right (by decide) (by omega));omega
 ·rcases h.2 with q|q;·exact .inl q
  ·by_cases t:6≤n;·exact .inl t
   ·right;have t:2 ^ n≤2 ^ 6:=aW (by decide) (by omega);have t:(2:Nat) ^ 6=64:=rfl;have A:x / 64=0:=(by omega);unfold eO;rw[A]at j s ⊢;rw[dC,gy j];show(((ws.getD 0 0).toNat ||| 2 ^ (x%64):Nat):Int)<2 ^ 2 ^ n
    have z:(ws.getD 0 0).toNat ||| 2 ^ (x%64)<2 ^ 2 ^ n:=Nat.or_lt_two_pow (by
     have e:((2 ^ 2 ^ n:Nat):Int)=2 ^ 2 ^ n:=by push_cast;rfl
     omega) (Nat.pow_lt_pow_right (by decide) (by omega))
    have e:((2 ^ 2 ^ n:Nat):Int)=2 ^ 2 ^ n:=(by push_cast;rfl);omega
theorem yh {n:Nat}{ws:List Int}{x:Nat}(h:iA n ws)(q:x / 64<ws.length)(y:Nat):hasB (eO ws x) y=(hasB ws y||decide (y=x)):=by
 unfold hasB eO;by_cases j:y / 64=x / 64
 ·have s:=(h.ch (y / 64)).1;rw[←j]at q ⊢;rw[dC,gy q];simp only[Option.getD_some];obtain⟨m,q⟩:∃m:Nat,ws.getD (y / 64) 0=(m:Int):=⟨_,(Int.toNat_of_nonneg s).symm⟩;rw[q,cN,nat_bit,nat_bit,Nat.testBit_or,Nat.testBit_two_pow];congr 1
  exact decide_eq_decide.2 ⟨fun h=>by omega,fun h=>by rw[h]⟩
 ·rw[dC,fK (fun e=>j e.symm),←dC];rw[aY (fun e=>j (by rw[e])),Bool.or_false]
def eI (K:Nat)(l:List Nat):List Int:=l.foldl eO (List.replicate K 0)
theorem Ae (K:Nat)(l:List Nat)(x:Nat):eI K (l++[x])=eO (eI K l) x:=by unfold eI;rw[List.foldl_append];rfl
theorem uJ {n K:Nat}(J:∀x,x<2 ^ n→x / 64<K):∀(l:List Nat) (ws:List Int),ws.length=K→iA n ws→(∀x∈l,x<2 ^ n)→(l.foldl eO ws).length=K∧iA n (l.foldl eO ws)∧∀y,hasB (l.foldl eO ws) y=(hasB ws y||decide (y∈l)):=by
 intro l;induction l with
 |nil=>intro ws j q _;exact⟨j,q,fun y=>by simp⟩
 |cons x l L=>
  intro ws j q t;have A:x<2 ^ n:=t x (by simp);have z:x / 64<ws.length:=by rw[j];exact J x A
  obtain⟨B,E,I⟩:=L (eO ws x) (by rw[uK,j]) (uL q A z) (fun y s=>t y (by simp[s]));refine⟨B,E,fun y=>?_⟩;show hasB (l.foldl eO (eO ws x)) y=_;rw[I,yh q z];by_cases s:y=x;·simp[s]
  ·simp[s]
theorem o3 {n K:Nat}(A:∀x,x<2 ^ n→x / 64<K)(l:List Nat)(B:∀x∈l,x<2 ^ n):(eI K l).length=K∧iA n (eI K l)∧∀y,hasB (eI K l) y=decide (y∈l):=by
 have j:∀i,(List.replicate K (0:Int)).getD i 0=0:=fun i=>by
  rw[dC,List.getElem?_replicate];split<;>rfl
 obtain⟨s,t,z⟩:=uJ (n:=n) (K:=K) A l (List.replicate K 0) uP ⟨fun x A=>by rw[List.eq_of_mem_replicate A];decide,.inr (by rw[j];exact Int.pow_pos (by decide))⟩ B;refine⟨s,t,fun y=>?_⟩;have q:hasB (List.replicate K (0:Int)) y=false:=by unfold hasB;rw[j];simp
 have:=z y;rwa[q,Bool.false_or]at this
theorem Ad {n:Nat}(z:n≤16){l:List Nat}(t:∀x∈l,x<2 ^ n):dP (n:Int) (eI (max 1 (2 ^ n / 64)) l)=true:=by
 obtain⟨j,s,-⟩:=o3 (n:=n) (K:=max 1 (2 ^ n / 64)) (fun x A=>by
  have:=m9 n z
  omega) l t
 refine iJ.2 ⟨by omega,by rw[j,cN],?_⟩;rw[cN];rcases s.2 with q|q;·exact .inl (by omega)
 ·exact .inr q
theorem vT (n:Nat)(A:n≤16)(w:World) :
  Calls Tryz.prog 208 #[.int .i64 (n:Int)] w fun e w'=>∃g,w.heap.size≤g∧e=.returned (.agg #[.int .i64 (n:Int),.slice (some ⟨g,0,none⟩) (max 1 (2 ^ n / 64)) (max 1 (2 ^ n / 64))])∧bJ w' g (List.replicate (max 1 (2 ^ n / 64)) 0)∧ae w w':=by
 have t:=aa (fun(I:World)=>tz n A I)
 obtain⟨O,L,S,T,U⟩:=info_parts rB
 have J:max 1 (2 ^ n / 64)≤1024:=by
  have:2 ^ n≤2 ^ 16:=aW (by decide) A;have A:(2:Nat) ^ 16=65536:=rfl;omega
 obtain⟨K,z⟩:∃K,K=max 1 (2 ^ n / 64):=⟨_,rfl⟩
 rw[←z]at t J ⊢
 clear z
 go_enter Tryz.func208,Tryz.ntmps208
 go_wp2_with (first
  |(go_at_call 160;refine(t.out _).mono ?_;rintro e w1 ⟨rfl,rfl⟩)
  |(at_make;refine wpList_make_full _ rfl _ _ 103 rfl (w.heap.size+1) 56 O (.int .u64 0) 1 Tryz.underlying103 L S T .i64 .i64 _ _ K rfl rfl rfl rfl (by rw[U];omega) (by unfold maxLen;omega) (by simp) ?_;intro w1 s j;rw[ai]at s;have E:=aa (ti s);have q:ae (w.alloc (.cells #[.int .i64 0,.slice none 0 0] 105)) w1:=⟨j.os,j.tape,j.output,j.size,fun i hi=>j.block i hi (by simp)⟩;have B:=aa (((ae.refl w).alloc _).trans q);have X:=q.U (a:=⟨w.heap.size,0,none⟩) (v:=.int .i64 0);have Y:=q.U (a:=⟨w.heap.size,1,none⟩) (v:=.slice none 0 0);have Z:=fun o:Nat=>q.d' (a:=⟨w.heap.size,o,none⟩);have W:=q.size;simp only[ai]at W;have N:w.heap.size<w1.heap.size:=(by omega);clear s j q)
  |fail)
 refine aq (v:=.agg #[.int .i64 (n:Int),.slice (some ⟨w.heap.size+1,0,none⟩) K K]) (by simp[results,Tryz.results208,go_sem,X,Y,N]) rfl ⟨w.heap.size+1,by omega,rfl,?_,?_⟩
 ·exact E.out.a4 ((af.refl (fun k=>k=w.heap.size) w1).setCell (p:=⟨w.heap.size,0,none⟩) (.inl rfl) _ |>.setCell (p:=⟨w.heap.size,1,none⟩) (.inl rfl) _) (by omega)
 ·exact B.out.new ((af.refl (fun k=>k=w.heap.size) w1).setCell (p:=⟨w.heap.size,0,none⟩) (.inl rfl) _ |>.setCell (p:=⟨w.heap.size,1,none⟩) (.inl rfl) _) (fun k j=>by omega)
theorem Cl (n:Nat)(a1:n≤16)(a:Option Addr)(cap:Nat)(l:List Nat)(w:World)(bn:bH w a (l.map (fun x:Nat=>(x:Int))))(W:∀x∈l,x<2 ^ n)(cD:l.length≤65536) :
  Calls Tryz.prog 148 #[.int .i64 (n:Int),.slice a l.length cap] w fun e w'=>∃g,w.heap.size≤g∧e=.returned (.tuple #[.agg #[.int .i64 (n:Int),.slice (some ⟨g,0,none⟩) (max 1 (2 ^ n / 64)) (max 1 (2 ^ n / 64))],.int .u8 0])∧bJ w' g (eI (max 1 (2 ^ n / 64)) l)∧ae w w':=by
 have a0:=fun(am:World)=>tq (n:Int) am
 rw[bc (show 0≤(n:Int)∧(n:Int)≤16 by omega)]at a0
 have ce:=aa a0
 have bd:=aa (fun(am:World)=>vT n a1 am)
 have b1:=m9 n a1
 have cS:2 ^ n≤2 ^ 16:=aW (by decide) a1
 have am:(2:Nat) ^ 16=65536:=rfl
 obtain⟨K,bp⟩:∃K,K=max 1 (2 ^ n / 64):=⟨_,rfl⟩
 rw[←bp]at bd b1 ⊢
 have U:∀x,x<2 ^ n→x / 64<K:=fun x q=>by omega
 have bw:∀d,(eI K (l.take d)).length=K∧iA n (eI K (l.take d)):=fun d=>by
  obtain⟨T,am,-⟩:=o3 U (l.take d) (fun x q=>W x (List.mem_of_mem_take q));exact⟨T,am⟩
 have b0:∀d x,l[d]?=some x→eI K (l.take (d+1))=eO (eI K (l.take d)) x:=fun d x q=>by rw[gT q,Ae]
 obtain⟨p,a5⟩:∃p,p=2 ^ n:=⟨_,rfl⟩
 have c0:IntKind.i64.wrap (2 ^ n)=(p:Int):=by
  have e:((2:Int) ^ n)=((2 ^ n:Nat):Int):=by push_cast;rfl
  rw[e,a5];exact lO _ (by omega)
 have am:IntKind.i64.wrap (1*2 ^ n)=(p:Int):=by rw[Int.one_mul];exact c0
 rw[←a5]at W U cS
 obtain⟨z,aw⟩:∃z,z=l.length:=⟨_,rfl⟩
 rw[←aw]at cD ⊢
 have ca:=aa bn
 have cd:=aa W
 have cb:=aa U
 have cg:=aa bw
 have ci:=aa b0
 have bg:=aa aw
 have bi:eI K (l.take 0)=List.replicate K 0:=rfl
 have b8:=aa bi
 have am:K≤1024:=by omega
 clear a0 bn W U bw b0 aw bi b1 bp a5
 go_enter Tryz.func148,Tryz.ntmps148
 go_wp2_with (first
  |(go_at_call 159;refine(ce.out _).mono ?_;rintro e w1 ⟨rfl,rfl⟩)
  |(go_at_call 208;refine(bd.out _).mono ?_;rintro e w1 ⟨g,cv,rfl,bq,B⟩;have al:=aa bq;have ab:=B.U (a:=⟨w.heap.size,0,none⟩) (v:=.int .i64 0);have ad:=B.U (a:=⟨w.heap.size,1,none⟩) (v:=.slice none 0 0);have b6:=fun o:Nat=>B.d' (a:=⟨w.heap.size,o,none⟩);have b4:=B.size;simp only[ai]at b4 cv;have I:w.heap.size<w1.heap.size:=(by omega);have be:=aa (((ae.refl w).alloc _).trans B);clear bq B)
  |fail)
 have cx:=al.out.lt
 have s:ae w1 (w1.alloc (.cells #[.int .i64 (n:Int),.slice (some ⟨g,0,none⟩) K K] 105)):=(ae.refl _).alloc _
 have Z:(w1.alloc (.cells #[.int .i64 (n:Int),.slice (some ⟨g,0,none⟩) K K] 105)).cell? ⟨w1.heap.size,0,none⟩=some (.int .i64 (n:Int)):=by simp[go_sem]
 have S:(w1.alloc (.cells #[.int .i64 (n:Int),.slice (some ⟨g,0,none⟩) K K] 105)).cell? ⟨w1.heap.size,1,none⟩=some (.slice (some ⟨g,0,none⟩) K K):=by simp[go_sem]
 have b5:(w1.alloc (.cells #[.int .i64 (n:Int),.slice (some ⟨g,0,none⟩) K K] 105)).heap.size=w1.heap.size+1:=by simp
 obtain⟨L,br⟩:∃L,L=w1.alloc (.cells #[.int .i64 (n:Int),.slice (some ⟨g,0,none⟩) K K] 105):=⟨_,rfl⟩
 rw[←br]at s Z S b5 ⊢
 obtain⟨sb,bD⟩:∃sb,sb=w1.heap.size:=⟨_,rfl⟩
 rw[←bD]at Z S ⊢
 replace ab:=s.cell ab
 replace ad:=s.cell ad
 have b7:=fun o:Nat=>s.a3 (a:=⟨w.heap.size,o,none⟩) (by simp;omega) (b6 o)
 have ch:=aa (al.out.ad s)
 have bf:=aa (be.out.trans s)
 have bb:sb≠g:=by omega
 have B:g≠sb:=by omega
 have b3:w.heap.size≠g:=by omega
 have B:g≠w.heap.size:=by omega
 have B:sb<L.heap.size:=by omega
 have B:w.heap.size<L.heap.size:=by omega
 clear br s b6 al be b5 bD cx b4 I
 go_loopg [8,17] z (fun gk s s wr=>∃d:Nat,s=.int .i64 (d:Int)∧d+gk=z∧bJ wr g (eI K (l.take d))∧af (fun k=>k=g) L wr)
 case atStart=>exact⟨0,rfl,by omega,by rw[b8.out];exact ch.out,af.refl _ _⟩
 case round=>
  obtain⟨d,rfl,B,s,E⟩:=hrel;have t:=aa s;have j:=aa E;have B:=E.size;clear s E;by_cases cE:d<z
  ·obtain⟨x,q⟩:∃b,l[d]?=some b:=⟨_,ar (by rw[←bg.out];exact cE)⟩;have s:=cd.out x (bB q);have a':=cb.out x s;obtain⟨I,Y⟩:=cg.out d;have a3:=ci.out d x q;obtain⟨ws,b2⟩:∃ws,ws=eI K (l.take d):=⟨_,rfl⟩;rw[←b2]at t I Y a3;obtain⟨b,off,rfl,av⟩:=ca.out d x (by rw[dh,q];rfl);have c2:=aB av;dsimp only at c2;have s:¬b=g:=(by omega);replace av:=j.out.cellAt s (bf.out.cell av);have c4:=j.out.cellAt (b:=sb) (o:=1) bb S;obtain⟨m,O⟩:∃m:Nat,ws.getD (x / 64) 0=(m:Int):=⟨_,(Int.toNat_of_nonneg (Y.ch _).1).symm⟩;have bv:=(Y.ch (x / 64)).2;have co:(2:Int) ^ 64=18446744073709551616:=rfl;have c3:(2:Nat) ^ 64=18446744073709551616:=rfl;rw[O]at bv
   have a8:ws[x / 64]?=some (m:Int):=by
    have T:ws[x / 64]?=some (ws[x / 64]'(by rw[I];exact a')):=ar _;rw[dC,T]at O;rw[T];exact congrArg some O
   have cn:=t.out.cell a8;have cl:=t.out.frozen (x / 64);have bt:x%64<64:=bU _ (by decide);have a6:2 ^ (x%64)<2 ^ 64:=Nat.pow_lt_pow_right (by decide) bt;have a4:bits BinOp.or IntKind.u64 (m:Int) ((2 ^ (x%64):Nat):Int)=((m ||| 2 ^ (x%64):Nat):Int):=bits_or_u64_nat _ _ (by omega) (by omega);have A:eO ws x=ws.set (x / 64) ((m ||| 2 ^ (x%64):Nat):Int):=(by unfold eO;rw[O,cN]);have X:((2:Int) ^ (x%64))=((2 ^ (x%64):Nat):Int):=(by push_cast;rfl);obtain⟨J,a7⟩:∃J,J=x / 64:=⟨_,rfl⟩;obtain⟨k,N⟩:∃k,k=x%64:=⟨_,rfl⟩;obtain⟨u,E⟩:∃u:Nat,u=2 ^ k:=⟨_,rfl⟩;rw[←a7]at a8 cn cl A a';rw[←N]at bt a6 a4 A X;rw[←E]at a6 a4 A X;have s:IntKind.u64.wrap (2 ^ k)=(u:Int):=(by rw[X,IntKind.wrap_u64];omega);obtain⟨r,bx⟩:∃r:Nat,r=m ||| u:=⟨_,rfl⟩;rw[←bx]at a4 A;have cf:=aa (a3.trans A);have B:(x:Int) / 64=(J:Int):=(by rw[a7];omega);have s:(x:Int)%64=(k:Int):=(by rw[N];omega);have L:Int.tdiv (x:Int) 64=(J:Int):=(by rw[Int.tdiv_eq_ediv_of_nonneg (by omega)];exact B);have L:Int.tmod (x:Int) 64=(k:Int):=(by rw[Int.tmod_eq_emod_of_nonneg (by omega)];exact s);have cj:=aa I;clear q I Y a3 b2 O a8 A a7 N E;clear X B s a6 bx co c3 bv;go_wp2_with fail;go_region;go_wp2_with fail;go_roundg (gk-1)
   case rel=>exact⟨d+1,by push_cast;rfl,by omega,by rw[cf.out];exact(t.out.set J (r:Int) (by rw[cj.out];exact a')).ad (ae.refl _).drew,af.drew (j.out.setCell (p:=⟨g,J,none⟩) (.inl rfl) _)⟩
   case measure=>omega
  ·have cp:d=z:=by omega
   have bs:bJ wr g (eI K l):=by
    have h:=t.out;rwa[ic (by rw[←bg.out];omega)]at h
   have b9:=aa bs;have q:=j.out.cellAt (b:=sb) (o:=0) bb Z;have c4:=j.out.cellAt (b:=sb) (o:=1) bb S;have w0:=j.out.cellAt (b:=w.heap.size) (o:=0) b3 ab;have c5:=j.out.cellAt (b:=w.heap.size) (o:=1) b3 ad;have wf:=fun o:Nat=>j.out.frozen (a:=⟨w.heap.size,o,none⟩) (by dsimp only;omega) (by dsimp only;omega) (b7 o);have c6:=wf 0;have c7:=wf 1;have q:ae w wr:=bf.out.new j.out (fun k N=>by omega);have cc:=aa q;have c1:w.heap.size<wr.heap.size:=(by omega);have cy:w.heap.size≤g:=(by omega);clear bs q cp t j Z S ab ad b7 wf;go_wp2_with fail;refine aq (v:=.tuple #[.agg #[.int .i64 (n:Int),.slice (some ⟨g,0,none⟩) K K],.int .u8 0]) (by simp[results,Tryz.results148,go_sem,w0,c5,c6,c7,c1]) rfl ⟨g,cy,rfl,?_,?_⟩;·exact b9.out.a4 ((af.refl (fun k=>k=w.heap.size) wr).setCell (p:=⟨w.heap.size,0,none⟩) (.inl rfl) _ |>.setCell (p:=⟨w.heap.size,1,none⟩) (.inl rfl) _) (by omega)
   ·exact cc.out.new ((af.refl (fun k=>k=w.heap.size) wr).setCell (p:=⟨w.heap.size,0,none⟩) (.inl rfl) _ |>.setCell (p:=⟨w.heap.size,1,none⟩) (.inl rfl) _) (fun k N=>by omega)
def nu (sp op:Option Addr):Prop:=sp=none∨(op=none∧∃b,sp=some ⟨b,0,none⟩)
theorem tB {sp op:Option Addr}(h:nu sp op)(w:World):Calls Tryz.prog 47 #[.pointer sp,.pointer op] w fun e w'=>e=.returned (.int .u8 2)∧w=w':=by
 rcases h with rfl|⟨rfl,b,rfl⟩
 ·go_enter Tryz.func47,Tryz.ntmps47;go_wp2;go_ret;exact⟨rfl,rfl⟩
 ·go_enter Tryz.func47,Tryz.ntmps47;go_wp2;go_ret;exact⟨rfl,rfl⟩
theorem CT {sp op:Option Addr}(h:nu sp op)(v:Value)(g:Int)(w:World):Calls Tryz.prog 17 #[.pointer sp,.pointer op,v,.int .i64 g] w fun e w'=>e=.returned (.tuple #[.slice none 0 0,.int .u8 2])∧ae w w':=by
 have j:=aa (fun(q:World)=>tB h q);clear h;go_enter Tryz.func17,Tryz.ntmps17;go_wp2_with (first|(go_at_call 47;refine(j.out _).mono ?_;rintro e w1 ⟨rfl,rfl⟩)|fail)
 go_ret2;exact⟨rfl,kp⟩
theorem zl {sp op:Option Addr}(h:nu sp op)(v:Value)(w:World):Calls Tryz.prog 12 #[.pointer sp,.pointer op,v] w fun e w'=>e=.returned (.tuple #[.slice none 0 0,.int .u8 2])∧ae w w':=by
 have j:=aa (fun(q:World)=>tB h q);clear h;go_enter Tryz.func12,Tryz.ntmps12;go_wp2_with (first|(go_at_call 47;refine(j.out _).mono ?_;rintro e w1 ⟨rfl,rfl⟩)|fail)
 go_ret2;exact⟨rfl,kp⟩
noncomputable def jI (M:St)(n:Nat)(g:Int)(rs:List (Int×Edge)):Int:=if M.n≠(n:Int)then 1 else if g<0∨1000<g then 1 else bh M rs
noncomputable def kc (M:St)(n:Nat)(rs:List (Int×Edge)):Int:=if M.n≠(n:Int)then 1 else if 5<M.n then 12 else bh M rs
theorem CP {F Fo:Nat→Prop}{w:World}{sb L:Nat}{M:St}{ps:List Int}(h:ak F w sb M)(I:ba Fo w L ps)(a:Option Addr)(cap:Nat)(rs:List (Int×Edge))(J:cA w a rs)(E:rs.length≤1048576)(g:Int)(q:jI M ps.length g rs≠0) :
  Calls Tryz.prog 17 #[.pointer (some ⟨sb,0,none⟩),.pointer (some ⟨L,0,none⟩),.slice a rs.length cap,.int .i64 g] w fun e w'=>e=.returned (.tuple #[.slice none 0 0,.int .u8 (jI M ps.length g rs)])∧ae w w':=by
 have j:=mT h I
 have z:=fun(S:World) (L:ae w S)=>kI (h.ad L) a cap rs (J.ad L) E
 obtain⟨L,B⟩:∃L,L=rs.length:=⟨_,rfl⟩
 rw[←B]at z ⊢
 unfold jI at q ⊢
 by_cases s:M.n=(ps.length:Int)
 ·rw[ah s]at j;rw[ag (by simpa using s)]at q ⊢;by_cases L:g<0
  ·rw[ah (.inl L)];have t:=aa j;clear j z q h I J E s B;go_enter Tryz.func17,Tryz.ntmps17;go_wp2_with (first|(go_at_call 47;refine t.out.mono ?_;rintro e w1 ⟨rfl,A⟩)|fail)
   go_ret2;exact⟨rfl,A⟩
  ·by_cases L:1000<g
   ·rw[ah (.inr L)];have t:=aa j;clear j z q h I J E s B;go_enter Tryz.func17,Tryz.ntmps17;go_wp2_with (first|(go_at_call 47;refine t.out.mono ?_;rintro e w1 ⟨rfl,A⟩)|fail)
    go_ret2;exact⟨rfl,A⟩
   ·rw[ag (by omega)]at q ⊢;obtain⟨c,N⟩:∃c,c=bh M rs:=⟨_,rfl⟩;rw[←N]at z q ⊢;have L:(c != 0)=true:=(by simpa using q);have t:=aa j;have O:=aa z;clear j z q h I J E s B N;go_enter Tryz.func17,Tryz.ntmps17;go_wp2_with (first|(go_at_call 47;refine t.out.mono ?_;rintro e w1 ⟨rfl,A⟩)|(go_at_call 49;refine(O.out _ kp).mono ?_;rintro e L ⟨rfl,L⟩)|fail)
    go_ret2;exact⟨rfl,kp⟩
 ·rw[ag s]at j;rw[ah s];have t:=aa j;clear j z q h I J E s B;go_enter Tryz.func17,Tryz.ntmps17;go_wp2_with (first|(go_at_call 47;refine t.out.mono ?_;rintro e w1 ⟨rfl,A⟩)|fail)
  go_ret2;exact⟨rfl,A⟩
theorem CN {F Fo:Nat→Prop}{w:World}{sb J:Nat}{M:St}{ps:List Int}(h:ak F w sb M)(N:ba Fo w J ps)(a:Option Addr)(cap:Nat)(rs:List (Int×Edge))(O:cA w a rs)(L:rs.length≤1048576)(j:kc M ps.length rs≠0) :
  Calls Tryz.prog 12 #[.pointer (some ⟨sb,0,none⟩),.pointer (some ⟨J,0,none⟩),.slice a rs.length cap] w fun e w'=>e=.returned (.tuple #[.slice none 0 0,.int .u8 (kc M ps.length rs)])∧ae w w':=by
 have q:=mT h N
 have t:=fun(T:World) (J:ae w T)=>dw (h.ad J)
 have z:=fun(T:World) (J:ae w T)=>kI (h.ad J) a cap rs (O.ad J) L
 obtain⟨J,I⟩:∃J,J=rs.length:=⟨_,rfl⟩
 rw[←I]at z ⊢
 unfold kc at j ⊢
 have W:=h.wf.n0
 by_cases s:M.n=(ps.length:Int)
 ·rw[ah s]at q;rw[ag (by simpa using s)]at j ⊢;by_cases E:5<M.n
  ·rw[ah E];obtain⟨n,B⟩:∃n,n=M.n:=⟨_,rfl⟩;rw[←B]at t E;have A:=aa q;have S:=aa t;clear q z t j h N O L s I B W;go_enter Tryz.func12,Tryz.ntmps12;go_wp2_with (first|(go_at_call 47;refine A.out.mono ?_;rintro e w1 ⟨rfl,U⟩)|(go_at_call 48;refine(S.out _ kp).mono ?_;rintro e Z ⟨rfl,rfl⟩)|fail)
   go_ret2;exact⟨rfl,kp⟩
  ·rw[ag E]at j ⊢;obtain⟨n,B⟩:∃n,n=M.n:=⟨_,rfl⟩;rw[←B]at t E W;obtain⟨c,X⟩:∃c,c=bh M rs:=⟨_,rfl⟩;rw[←X]at z j ⊢;have E:(c != 0)=true:=(by simpa using j);have A:=aa q;have Y:=aa z;have S:=aa t;clear q z t j h N O L s I X B;go_enter Tryz.func12,Tryz.ntmps12;go_wp2_with (first|(go_at_call 47;refine A.out.mono ?_;rintro e w1 ⟨rfl,U⟩)|(go_at_call 48;refine(S.out _ kp).mono ?_;rintro e Z ⟨rfl,rfl⟩)|(go_at_call 49;refine(Y.out _ kp).mono ?_;rintro e B ⟨rfl,B⟩)|fail)
   go_ret2;exact⟨rfl,kp⟩
 ·rw[ag s]at q;rw[ah s];have A:=aa q;clear q z t j h N O L s I W;go_enter Tryz.func12,Tryz.ntmps12;go_wp2_with (first|(go_at_call 47;refine A.out.mono ?_;rintro e w1 ⟨rfl,U⟩)|fail)
  go_ret2;exact⟨rfl,U⟩
end Go.Proofs.YtafkamlhimkbmaaGreat
