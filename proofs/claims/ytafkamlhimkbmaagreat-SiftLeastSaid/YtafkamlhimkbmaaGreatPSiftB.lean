/-
  swap.Swap.
-/
import Derived.Test.YtafkamlhimkbmaaGreatPPermS
import Derived.Test.YtafkamlhimkbmaaGreatPSwapB
namespace Go.Proofs.YtafkamlhimkbmaaGreat
set_option maxRecDepth 1000000
set_option maxHeartbeats 8000000
set_option linter.unusedSimpArgs false
set_option linter.unusedVariables false
open Go.RowKit

def fT (F Fo:Nat→Prop)(w:World)(s q:Nat)(M:St)(ps:List Int)(ss:List Nat)(rs:List (Int×Edge))(c code:Int)(r:Ending)(j:World):Prop:=
 (code≠0∧r=.returned (.tuple #[.slice none 0 0,.int .u8 code])∧aa w j)∨(code=0∧iB F Fo w s q M ps ss rs c r j)

theorem iB.gf {F Fo:Nat→Prop}{w j A:World}{z t:Nat}{M:St}{ps:List Int}{ss:List Nat}{rs:List (Int×Edge)}{c:Int}{r:Ending}(h:iB F Fo j z t M ps ss rs c r A)(s:aa w j):iB F Fo w z t M ps ss rs c r A:=by
 obtain⟨g,es,M',F',j,t,S,z,A,I,J,K,L,E⟩:=h;have S:=s.size;exact⟨g,es,M',F',j,t,by omega,z,A,fun O N=>by rcases I O N with q|q;exact .inl q;exact .inr (by omega),J,K,(s.av _).a' L,E⟩

theorem rS {F:Nat→Prop}{w:World}{A:Nat}{M:St}{rs:List (Int×Edge)}(h:ag F w A M)(op K:Value)(j:Option Addr)(cap3:Nat)(z:dJ w j rs)(I:rs.length≤1048576)(E:bM M rs≠0) :
  Calls Tryz.prog 213 #[.pointer (some ⟨A,0,none⟩),op,K,.slice j rs.length cap3] w fun e O=>e=.returned (.tuple #[.slice none 0 0,.int .u8 (bM M rs)])∧aa w O:=by
 have t:=fun(K:World) (A:aa w K)=>qN (h.U A) j cap3 rs (z.U A) I
 have N:=xq M rs
 obtain⟨c,s⟩:∃c,c=bM M rs:=⟨_,rfl⟩
 obtain⟨j,q⟩:∃j,j=rs.length:=⟨_,rfl⟩
 rw[←s,←q]at t
 rw[←s]at E N ⊢
 rw[←q]
 have J:=Lib.hid t
 have j:(c != 0)=true:=by simp[E]
 clear t h z s q I
 go_enter Tryz.func213,Tryz.ntmps213
 go_wp2_with (first|(go_at_call 248;refine(J.out _ (by(exact kp))).mono ?_;rintro e w1 ⟨rfl,L⟩)|fail)
 go_ret2
 exact⟨rfl,L⟩

def jL (M:St)(n:Nat)(lv:Int)(rs:List (Int×Edge)):Int:=if M.n=(n:Int)then(if lv<0∨M.n-1≤lv then 3 else bM M rs)else 1

theorem AB {F Fo:Nat→Prop}{w:World}{z t:Nat}{M:St}{ps:List Int}{rs:List (Int×Edge)}{c:Int}(h:ag F w z M)(T:bA Fo w t ps)(a1:∀k,F k→¬Fo k)(lv:Int)
  (L:Option Addr) (cap3:Nat) (W:∀j,ae (fun bq=>F bq∨Fo bq) w j→dJ j L rs) (a7:rs.length≤16) (aw:0≤lv→lv+1<M.n→df lv 0≤c) (b0:0≤c) (a4:M.len+(rs.length:Int)*c<M.room) (a3:M.room<1048576) :
  Calls Tryz.prog 169 #[.pointer (some ⟨z,0,none⟩),.pointer (some ⟨t,0,none⟩),.int .i64 lv,.slice L rs.length cap3] w (fT F Fo w z t M ps [lv.toNat] rs c (jL M ps.length lv rs)):=by
 have J:=fun(j:World) (q:aa w j)=>AA (h.U q) (T.U q)
 have am:=fun(j:World) (q:aa w j)=>dz (h.U q)
 have bi:=h.wf.n0
 have bn:=h.wf.br
 by_cases I:M.n=(ps.length:Int)
 ·have S:jL M ps.length lv rs=if lv<0∨M.n-1≤lv then 3 else bM M rs:=if_pos I;rw[if_pos I]at J;rw[S];by_cases U:lv<0∨M.n-1≤lv
  ·rw[if_pos U];have N:=Lib.hid J;have O:=Lib.hid am;obtain⟨n,Z⟩:∃n,n=M.n:=⟨_,rfl⟩;rw[←Z]at O U bi bn;clear J am h T a1 W a7 aw a4 a3 Z I S;have ab:∀A:World,aa w A→fT F Fo w z t M ps [lv.toNat] rs c 3 (.returned (.tuple #[.slice none 0 0,.int .u8 3])) A:=fun A Y=>.inl ⟨by decide,rfl,Y⟩;have av:=Lib.hid ab;clear ab;by_cases bq:lv<0
   ·go_enter Tryz.func169,Tryz.ntmps169
    go_wp2_with (first|(go_at_call 212;refine(N.out _ (by(exact kp))).mono ?_;rintro e w1 ⟨rfl,a2⟩)|(go_at_call 48;refine(O.out _ (by(exact kp))).mono ?_;rintro e w1 ⟨rfl,rfl⟩)|fail)
    go_ret2
    exact av.out _ (by(exact kp))
   ·have bx:n-1≤lv:=(by omega);go_enter Tryz.func169,Tryz.ntmps169
    go_wp2_with (first|(go_at_call 212;refine(N.out _ (by(exact kp))).mono ?_;rintro e w1 ⟨rfl,a2⟩)|(go_at_call 48;refine(O.out _ (by(exact kp))).mono ?_;rintro e w1 ⟨rfl,rfl⟩)|fail)
    go_ret2
    exact av.out _ (by(exact kp))
  ·rw[if_neg U];obtain⟨E,rfl⟩:∃E:Nat,lv=(E:Int):=⟨lv.toNat,by omega⟩
   have be:bM M rs=0→∀(j:World) (B:Nat),aa w j→w.heap.size≤B→j.cell? ⟨B,0,none⟩=some (.int .i64 (E:Int))→Calls Tryz.prog 213 #[.pointer (some ⟨z,0,none⟩),.pointer (some ⟨t,0,none⟩),.slice (some ⟨B,0,none⟩) 1 1,.slice L rs.length cap3] j (fT F Fo w z t M ps [(E:Int).toNat] rs c (bM M rs)):=fun K j B q a' a6=>by
    have X:=Az (ss:=[E]) (c:=c) (h.U q) (T.U q) a1 (some ⟨B,0,none⟩) L 1 cap3 (fun W' a5 i x a8=>by
     have b1:¬(F B∨Fo B):=fun s=>by
      rcases s with s|s;·have:=h.lt _ s;omega
      ·have:=T.lt _ s;omega
     cases i with
     |zero=>
      simp at a8;subst a8;exact⟨B,0,rfl,a5.cellAt b1 a6⟩
     |succ i=>simp at a8) (fun W' a5=>W W' ((q.av _).a' a5)) (by simp) a7 K I (fun b2 ad=>by simp at ad;subst ad;omega) (fun b2 ad=>by simp at ad;subst ad;exact aw (by omega) (by omega)) b0 (by simpa using a4) a3
    refine X.mono fun r A s=>.inr ⟨K,?_⟩;exact s.gf q
   have bb:bM M rs≠0→∀(j:World) (B:Nat),aa w j→Calls Tryz.prog 213 #[.pointer (some ⟨z,0,none⟩),.pointer (some ⟨t,0,none⟩),.slice (some ⟨B,0,none⟩) 1 1,.slice L rs.length cap3] j (fT F Fo w z t M ps [(E:Int).toNat] rs c (bM M rs)):=fun K j B q=>
    (rS (h.U q) _ _ L cap3 (W j (q.av _)) (by omega) K).mono fun r A ⟨ad,Y⟩=>.inl ⟨K,ad,q.trans Y⟩
   have X:∀(j:World) (B:Nat),aa w j→w.heap.size≤B→j.cell? ⟨B,0,none⟩=some (.int .i64 (E:Int))→Calls Tryz.prog 213 #[.pointer (some ⟨z,0,none⟩),.pointer (some ⟨t,0,none⟩),.slice (some ⟨B,0,none⟩) 1 1,.slice L rs.length cap3] j (fT F Fo w z t M ps [(E:Int).toNat] rs c (bM M rs)):=fun j B q a' a6=>by
    by_cases K:bM M rs=0;·exact be K j B q a' a6
    ·exact bb K j B q
   obtain⟨code,bg⟩:∃code,code=bM M rs:=⟨_,rfl⟩;rw[←bg]at X ⊢;have bt:=Lib.hid X;have N:=Lib.hid J;have O:=Lib.hid am;obtain⟨n,Z⟩:∃n,n=M.n:=⟨_,rfl⟩;rw[←Z]at O U bi bn;have bx:¬n-1≤(E:Int):=(by omega);have j:(E:Int)≤16:=by omega
   have bp:∀r A,fT F Fo w z t M ps [(E:Int).toNat] rs c code r A→∃br bs,r=.returned (.tuple #[br,bs]):=fun r A s=>by
    rcases s with⟨_,rfl,_⟩|⟨_,g,es,M',F',rfl,_⟩
    ·exact⟨_,_,rfl⟩
    ·exact⟨_,_,rfl⟩
   have bw:=Lib.hid bp;clear J am h T a1 W aw a4 a3 Z I S X be bb bg U bp;go_enter Tryz.func169,Tryz.ntmps169
   go_wp2_with (first|(go_at_call 212;refine(N.out _ (by(exact kp))).mono ?_;rintro e w1 ⟨rfl,a2⟩)|(go_at_call 48;refine(O.out _ (by(exact kp))).mono ?_;rintro e j ⟨rfl,rfl⟩)|fail)
   refine(bt.out _ w1.heap.size (by(exact kp)) a2.size (by simp[go_sem])).mono ?_;rintro r j s;obtain⟨br,bs,rfl⟩:=bw.out _ _ s;have bv:=Lib.hid s;clear s;go_wp2_with fail
   go_ret2
   exact bv.out
 ·have S:jL M ps.length lv rs=1:=if_neg I;rw[if_neg I]at J;rw[S];have N:=Lib.hid J;clear J am h T a1 W a7 aw a4 a3 I S;have ab:∀A:World,aa w A→fT F Fo w z t M ps [lv.toNat] rs c 1 (.returned (.tuple #[.slice none 0 0,.int .u8 1])) A:=fun A Y=>.inl ⟨by decide,rfl,Y⟩;have av:=Lib.hid ab;clear ab;go_enter Tryz.func169,Tryz.ntmps169
  go_wp2_with (first|(go_at_call 212;refine(N.out _ (by(exact kp))).mono ?_;rintro e w1 ⟨rfl,a2⟩)|fail)
  go_ret2
  exact av.out _ (by(exact kp))

structure eO (F Fo:Nat→Prop)(w:World)(sb ob:Nat)(M:St)(ps:List Int):Prop where
 a5:ag F w sb M
 cd:bA Fo w ob ps
 dr:∀k,F k→¬Fo k
 n:M.n=(ps.length:Int)
 room:M.room<1048576

theorem xp {M:St}(s:M.wf):∀{rs:List (Int×Edge)},(∀r∈rs,(1≤r.1∧r.1≤5)∧M.leads r.1 r.2 0=true)→bM M rs=0:=by
 intro rs;induction rs with
 |nil=>intro _;rfl
 |cons r rs t=>
  intro h;have j:=h r (by simp);have e:fr M r.1 r.2 0=0:=by rw[pH s,if_neg (by simp[bD,j.1.1,j.1.2]),if_neg (by rw[j.2];simp)]
  rw[pI,if_pos e];exact t (fun j q=>h j (by simp[q]))

theorem eO.U {F Fo:Nat→Prop}{w t:World}{s q:Nat}{M:St}{ps:List Int}(h:eO F Fo w s q M ps)(j:aa w t):eO F Fo t s q M ps:=⟨h.a5.U j,h.cd.U j,h.dr,h.n,h.room⟩

structure fe (M:St)(f:Int)(ps:List Int)(has:Nat→Bool)(x:Edge):Prop where
 ok:x.ok
 lead:M.leads f x 0=true
 right:bE M f x 0
 dk:tabP M ps f x=iM ps.length has

theorem fe.ext {M M':St}{f:Int}{ps:List Int}{has:Nat→Bool}{x:Edge}(h:fe M f ps has x)(q:M.wf)(j:au M M'):fe M' f ps has x:=
 ⟨h.ok,j.leads h.lead,dq j q h.right,by rw[k7 q j h.lead];exact h.dk⟩

theorem tm {M:St}{f:Int}{ps:List Int}{has:Nat→Bool}{x:Edge}(q:M.wf)(j:1≤f∧f≤5)(t:aA ps=true)(s:M.n=(ps.length:Int))(z:x.ok)(h:dC f M has ps 0 0 x):fe M f ps has x:=
 ⟨z,h.1.leads q j (by omega),h.2,AI t s (h.1.cx q j _ _ _ _ (by omega) (Int.le_refl _))⟩

theorem zh {n:Nat}{ss:List Nat}{M M':St}{f:Int}{ps qs:List Int}{has:Nat→Bool}{x y:Edge}(h:fe M f ps has x)(t:ps.length=n)(j:eN n ss M M' f x y)(q:bk ps ss=qs):fe M' f qs has y:=by
 have s:=j.dk ps t;rw[q]at s;have t:qs.length=ps.length:=by rw[←q,eX]
 exact⟨j.ok,j.lead,j.right h.right,by rw[s,h.dk,t]⟩

theorem Al {F:Nat→Prop}{w:World}{z:Nat}{M:St}{f:Int}{ps:List Int}{has:Nat→Bool}{x:Edge}(hS:ag F w z M)(s:1≤f∧f≤5)(t:aA ps=true)(j:M.n=(ps.length:Int))(q:ps.length≤5)(A:M.len+64≤1048576)(h:fe M f ps has x):ar f M (ps.length+1) x=bd f ps.length (bO has ps 0) 0:=by
 have z:2 ^ ps.length≤2 ^ 5:=Nat.pow_le_pow_right (by decide) q;have q:(2:Nat) ^ 5=32:=rfl;rw[qk s (hS.e5 f (by omega)) h.lead h.right h.ok.2.1 hS.gp j (by omega),qT t j h.dk]

theorem qO (M:St)(roots:List Int):au (cK M roots) M:=⟨rfl,fun _ _ h=>(jB.1 h).1⟩

theorem qP {F:Nat→Prop}{w:World}{j:Nat}{M:St}(h:ag F w j M)(roots:List Int):(cK M roots).len=((aN M.cs roots).length:Int):=by
 have j:=yc M roots;have j:=vE h;rw[nd];omega

theorem fe.eu {M:St}{f:Int}{ps:List Int}{has:Nat→Bool}{x:Edge}(h:fe M f ps has x){roots:List Int}(t:x.to∈roots)(q:(cK M roots).wf):fe (cK M roots) f ps has x:=by
 have j:=mj (roots:=roots) h.lead (fun s=>Reaches.root t s);exact⟨h.ok,j,kS (qO M roots) q j h.right,by rw[←k7 q (qO M roots) j];exact h.dk⟩

def gR (ps:List Int)(j:List (Int×List Bool)):List (Int×List Bool):=j.map (fun r=>(r.1,bO (hasB (bu r.2)) ps 0))

def aI (j:List (Int×List Bool))(ps:List Int):Nat:=m9 ps.length (gR ps j)

def ct (M:St)(ps:List Int)(q:List (Int×List Bool))(rs:List (Int×Edge)):Prop:=
 rs.length=q.length∧∀(i:Nat) (j:Int×List Bool) (r:Int×Edge),q[i]?=some j→rs[i]?=some r→r.1=j.1∧(1≤r.1∧r.1≤5)∧fe M r.1 ps (hasB (bu j.2)) r.2

theorem ct.leads {M:St}{ps:List Int}{j:List (Int×List Bool)}{rs:List (Int×Edge)}(h:ct M ps j rs):∀r∈rs,(1≤r.1∧r.1≤5)∧M.leads r.1 r.2 0=true:=fun r q=>by
 obtain⟨i,hi⟩:=List.mem_iff_getElem?.1 q;have q:=(List.getElem?_eq_some_iff.1 hi).1;obtain⟨t,q,s⟩:=h.2 i (j[i]'(by have:=h.1;omega)) r (List.getElem?_eq_getElem (by have:=h.1;omega)) hi;exact⟨q,s.lead⟩

theorem ct.fa {M:St}{ps:List Int}{j:List (Int×List Bool)}{rs:List (Int×Edge)}(h:ct M ps j rs):∀r∈rs,r.2.ok:=fun r q=>by
 obtain⟨i,hi⟩:=List.mem_iff_getElem?.1 q;have q:=(List.getElem?_eq_some_iff.1 hi).1;obtain⟨s,t,q⟩:=h.2 i (j[i]'(by have:=h.1;omega)) r (List.getElem?_eq_getElem (by have:=h.1;omega)) hi;exact q.ok

theorem ct.ev {F:Nat→Prop}{w:World}{J:Nat}{M:St}{ps:List Int}{s:List (Int×List Bool)}{rs:List (Int×Edge)}(hS:ag F w J M)(I:aA ps=true)(A:M.n=(ps.length:Int))(E:ps.length≤6)(K:M.len+64≤1048576)(h:ct M ps s rs):lu M ps.length (gR ps s) (rs.map Prod.snd):=by
 have J:2 ^ ps.length≤2 ^ 6:=Nat.pow_le_pow_right (by decide) E;have E:(2:Nat) ^ 6=64:=rfl;refine⟨by simp[gR,h.1],fun i E e j q=>?_⟩;unfold gR at j;rw[List.getElem?_map]at j q;cases t:s[i]? with
 |none=>rw[t]at j;cases j
 |some g=>
  cases z:rs[i]? with
  |none=>rw[z]at q;cases q
  |some r=>
   rw[t]at j;rw[z]at q;cases j;cases q;obtain⟨q,s,j⟩:=h.2 i g r t z;refine⟨by rw[←q];exact s,⟨by rw[←q];exact j.lead,j.ok.2.1,by push_cast;omega⟩,?_⟩;show ar g.1 M (ps.length+1) r.2=bd g.1 ps.length (bO (hasB (bu g.2)) ps 0) 0;rw[←q,qk s (hS.e5 _ (by omega)) j.lead j.right j.ok.2.1 hS.gp A (by omega),qT I A j.dk]

theorem ct.size {F:Nat→Prop}{w:World}{I:Nat}{M:St}{ps:List Int}{j:List (Int×List Bool)}{rs:List (Int×Edge)}(hS:ag F w I M)(E:aA ps=true)(A:M.n=(ps.length:Int))(t:ps.length≤6)(z:M.len+64≤1048576)(h:ct M ps j rs) :
  (aN M.cs ((rs.map Prod.snd).map Edge.to)).length=aI j ps∧aI j ps≤j.length*127:=by
 have j:=h.ev hS E A t z
 have q:=Af (fun f=>hS.e5 f (by omega)) j
 have s:=yV (fun f=>hS.e5 f (by omega)) j
 have j:2 ^ (ps.length+1)≤2 ^ 7:=Nat.pow_le_pow_right (by decide) (by omega)
 have j:(2:Nat) ^ 7=128:=rfl
 have j:(rs.map Prod.snd).length*(2 ^ (ps.length+1)-1)≤(rs.map Prod.snd).length*127:=Nat.mul_le_mul_left _ (by omega)
 rw[List.length_map,h.1]at s j
 exact⟨q,by unfold aI;omega⟩

theorem ct.eu {M:St}{ps:List Int}{j:List (Int×List Bool)}{rs:List (Int×Edge)}(h:ct M ps j rs)(t:(cK M ((rs.map Prod.snd).map Edge.to)).wf):ct (cK M ((rs.map Prod.snd).map Edge.to)) ps j rs:=
 ⟨h.1,fun i I r s q=>by
  obtain⟨z,A,E⟩:=h.2 i I r s q
  exact⟨z,A,E.eu (List.mem_map.2 ⟨r.2,List.mem_map.2 ⟨r,List.mem_of_getElem? q,rfl⟩,rfl⟩) t⟩⟩

theorem ct.step {M M':St}{ps:List Int}{ss:List Nat}{t:List (Int×List Bool)}{rs s:List (Int×Edge)}{es:List Edge}(h:ct M ps t rs)(A:ic ps.length ss M M' rs es)(I:s.length=rs.length)(J:∀(i:Nat) (r:Int×Edge) (e:Edge),rs[i]?=some r→es[i]?=some e→s[i]?=some (r.1,e)):ct M' (bk ps ss) t s:=
 ⟨I.trans h.1,fun i S r E q=>by
  have s:=(List.getElem?_eq_some_iff.1 q).1;have s:=A.1;have j:rs[i]?=some (rs[i]'(by omega)):=List.getElem?_eq_getElem (by omega);have z:es[i]?=some (es[i]'(by omega)):=List.getElem?_eq_getElem (by omega);obtain⟨L,N,O⟩:=h.2 i S _ E j;have K:=A.2 i _ _ j z;rw[J i _ _ j z]at q;cases q
  exact⟨L,N,zh O rfl K rfl⟩⟩

def cA (w:World)(a:Option Addr)(lb:Nat)(rs:List (Int×Edge)):Prop:=
 rs≠[]→a=some ⟨lb,0,none⟩∧∃j:Array Value,w.heap[lb]?=some (.cells j 55 (0,0))∧∀(i:Nat) (r:Int×Edge),rs[i]?=some r→j[i*3]?=some (Value.int .u8 r.1)∧j[i*3+1]?=some (Value.int .u8 r.2.tag)∧j[i*3+2]?=some (Value.int .u32 r.2.to)

theorem cA.a4 {G:Nat→Prop}{w j:World}{a:Option Addr}{lb:Nat}{rs:List (Int×Edge)}(h:cA w a lb rs)(E:ae G w j)(z:¬G lb):cA j a lb rs:=fun A=>by
 obtain⟨s,q,j,t⟩:=h A;exact⟨s,q,(E.block lb (aK j) z).trans j,t⟩

theorem cA.U {w j:World}{a:Option Addr}{lb:Nat}{rs:List (Int×Edge)}(h:cA w a lb rs)(q:aa w j):cA j a lb rs:=h.a4 (q.av (fun _=>False)) (fun h=>h)

theorem cA.cell {w:World}{a:Option Addr}{lb:Nat}{rs:List (Int×Edge)}(h:cA w a lb rs){i:Nat}{r:Int×Edge}(q:rs[i]?=some r) :
  a=some ⟨lb,0,none⟩∧w.cell? ⟨lb,i*3,none⟩=some (.int .u8 r.1)∧w.cell? ⟨lb,i*3+1,none⟩=some (.int .u8 r.2.tag)∧w.cell? ⟨lb,i*3+2,none⟩=some (.int .u32 r.2.to):=by
 obtain⟨A,I,j,E⟩:=h (fun e=>by rw[e]at q;cases q)
 obtain⟨s,t,z⟩:=E i r q
 exact⟨A,by rw[cell_of_row w lb _ _ _ _ j];simp only[s],by rw[cell_of_row w lb _ _ _ _ j];simp only[t],by rw[cell_of_row w lb _ _ _ _ j];simp only[z]⟩

theorem cA.frozen {w:World}{a:Option Addr}{lb:Nat}{rs:List (Int×Edge)}(h:cA w a lb rs){s:Nat}{r:Int×Edge}(j:rs[s]?=some r)(i:Nat):w.frozen? ⟨lb,i,none⟩=false:=by
 obtain⟨t,s,q,z⟩:=h (fun e=>by rw[e]at j;cases j);exact frozen_of_row w lb i _ _ q

theorem cA.roots {w:World}{a:Option Addr}{lb:Nat}{rs:List (Int×Edge)}(h:cA w a lb rs)(I:∀r∈rs,(0≤r.1∧r.1≤255)∧r.2.ok):dJ w a rs:=fun i r j=>by
 obtain⟨E,q,s,t⟩:=h.cell j;obtain⟨z,A⟩:=I r (List.mem_of_getElem? j);exact⟨z,A,lb,0,E,by rw[Nat.zero_add];exact q,by rw[Nat.zero_add];exact s,by rw[Nat.zero_add];exact t⟩

theorem cA.set {w:World}{a:Option Addr}{lb:Nat}{rs:List (Int×Edge)}(h:cA w a lb rs){i:Nat}{r:Int×Edge}(q:rs[i]?=some r)(e:Edge):cA ((w.setCell ⟨lb,i*3+1,none⟩ (.int .u8 e.tag)).setCell ⟨lb,i*3+2,none⟩ (.int .u32 e.to)) a lb (rs.set i (r.1,e)):=fun _=>by
 have hi:=(List.getElem?_eq_some_iff.1 q).1;obtain⟨E,J,I,s⟩:=h (fun e=>by rw[e]at q;cases q);have J:=Go.heap_setCell_same w lb (i*3+1) _ _ (.int .u8 e.tag) I;refine⟨E,_,Go.heap_setCell_same _ lb (i*3+2) _ _ (.int .u32 e.to) J,fun z x j=>?_⟩;obtain⟨A,E,I⟩:=s i r q;have K:=(Array.getElem?_eq_some_iff.1 E).1;have L:=(Array.getElem?_eq_some_iff.1 I).1;by_cases t:i=z
 ·subst t;rw[List.getElem?_set_self hi]at j;cases j;refine⟨?_,?_,?_⟩
  ·rw[Array.getElem?_setIfInBounds,if_neg (by omega),Array.getElem?_setIfInBounds,if_neg (by omega)];exact A
  ·rw[Array.getElem?_setIfInBounds,if_neg (by omega),Array.getElem?_setIfInBounds,if_pos rfl,if_pos K]
  ·rw[Array.getElem?_setIfInBounds,if_pos rfl,if_pos (by simpa using L)]
 ·rw[List.getElem?_set_ne t]at j;obtain⟨q,t,A⟩:=s z x j;refine⟨?_,?_,?_⟩
  ·rw[Array.getElem?_setIfInBounds,if_neg (by omega),Array.getElem?_setIfInBounds,if_neg (by omega)];exact q
  ·rw[Array.getElem?_setIfInBounds,if_neg (by omega),Array.getElem?_setIfInBounds,if_neg (by omega)];exact t
  ·rw[Array.getElem?_setIfInBounds,if_neg (by omega),Array.getElem?_setIfInBounds,if_neg (by omega)];exact A

structure eB (w:World)(bb:Nat)(la:Option Addr)(N cap sb ob:Nat):Prop where
 c0:w.cell? ⟨bb,0,none⟩=some (.pointer (some ⟨sb,0,none⟩))
 c1:w.cell? ⟨bb,1,none⟩=some (.pointer (some ⟨ob,0,none⟩))
 c2:w.cell? ⟨bb,2,none⟩=some (.slice la N cap)
 c3:w.cell? ⟨bb,3,none⟩=some (.int .u8 0)

theorem eB.a4 {G:Nat→Prop}{w I:World}{s t cap E A:Nat}{z:Option Addr}(h:eB w s z t cap E A)(q:ae G w I)(j:¬G s):eB I s z t cap E A:=
 ⟨q.cellAt j h.c0,q.cellAt j h.c1,q.cellAt j h.c2,q.cellAt j h.c3⟩

theorem eB.U {w A:World}{q j cap z t:Nat}{s:Option Addr}(h:eB w q s j cap z t)(E:aa w A):eB A q s j cap z t:=h.a4 (E.av (fun _=>False)) (fun h=>h)

structure fQ (F Fo:Nat→Prop)(w:World)(bb lb:Nat)(la:Option Addr)(cap sb ob:Nat)(M:St)(ps:List Int)(fs:List (Int×List Bool))(rs:List (Int×Edge)):Prop where
 bw:eO F Fo w sb ob M ps
 perm:aA ps=true
 n6:ps.length≤6
 b0:fs.length≤4
 len:M.len=(aI fs ps:Int)
 room:(fs.length:Int)*300<M.room
 bx:M.room≤1000000
 cp:ct M ps fs rs
 row:cA w la lb rs
 cells:eB w bb la fs.length cap sb ob
 nb:¬F bb∧¬Fo bb∧bb≠lb
 nl:¬F lb∧¬Fo lb
 fx:bb<w.heap.size∧lb<w.heap.size

theorem fQ.U {F Fo:Nat→Prop}{w E:World}{q lb cap A z:Nat}{t:Option Addr}{M:St}{ps:List Int}{s:List (Int×List Bool)}{rs:List (Int×Edge)}(h:fQ F Fo w q lb t cap A z M ps s rs)(j:aa w E):fQ F Fo E q lb t cap A z M ps s rs:=
 ⟨h.bw.U j,h.perm,h.n6,h.b0,h.len,h.room,h.bx,h.cp,h.row.U j,h.cells.U j,h.nb,h.nl,by have:=j.size;have:=h.fx;omega⟩

def cF (q Fo s:Nat→Prop)(w0 w:World)(j lb:Nat)(z:Option Addr)(cap E A:Nat)(ps:List Int)(t:List (Int×List Bool)):Prop:=
 ∃(F:Nat→Prop) (M:St) (rs:List (Int×Edge)),fQ F Fo w j lb z cap E A M ps t rs∧(∀j,F j→q j∨w0.heap.size≤j)∧ae (fun j=>q j∨Fo j∨j=lb∨s j) w0 w

theorem cF.next {t F Fo z A:Nat→Prop}{w0 w O:World}{E lb cap N L:Nat}{K:Option Addr}{ps:List Int}{I:List (Int×List Bool)}(hF:∀j,F j→t j∨w0.heap.size≤j)(J:ae (fun j=>t j∨Fo j∨j=lb∨z j) w0 w)(T:∀j,A j→z j∨w0.heap.size≤j)(h:cF F Fo A w O E lb K cap N L ps I):cF t Fo z w0 O E lb K cap N L ps I:=by
 obtain⟨F',M,rs,t,S,z⟩:=h;have A:=J.size;refine⟨F',M,rs,t,fun j U=>?_,J.b8 z (fun i hi s=>?_)⟩
 ·rcases S j U with q|q;·exact hF j q
  ·exact .inr (by omega)
 ·rcases s with s|s|s|s
  ·rcases hF i s with q|q;·exact .inl q
   ·omega
  ·exact .inr (.inl s)
  ·exact .inr (.inr (.inl s))
  ·rcases T i s with q|q;·exact .inr (.inr (.inr q))
   ·omega

theorem cF.start {F Fo:Nat→Prop}{w:World}{j lb cap z t:Nat}{s:Option Addr}{M:St}{ps:List Int}{q:List (Int×List Bool)}{rs:List (Int×Edge)}(h:fQ F Fo w j lb s cap z t M ps q rs)(A:Nat→Prop):cF F Fo A w w j lb s cap z t ps q:=
 ⟨F,M,rs,h,fun _ j=>.inl j,ae.refl _ _⟩

theorem lE {w:World}{U cap j:Nat}{aw:Option Addr}{rs:List (Int×Edge)}(W:w.cell? ⟨U,2,none⟩=some (.slice aw j cap))(Y:dJ w aw rs)(X:rs.length=j)(bv:j≤1048576) :
  Calls Tryz.prog 53 #[.pointer (some ⟨U,0,none⟩)] w fun e a1=>∃g,e=.returned (.slice (some ⟨g,0,none⟩) j j)∧w.heap.size≤g∧bL a1 g (rs.map Prod.snd)∧aa w a1:=by
 obtain⟨bi,ad,bn,bp,bq⟩:=info_parts o7
 have a4:=Lib.hid Y
 have I:=Lib.hid X
 clear Y X
 go_enter Tryz.func53,Tryz.ntmps53
 go_wp2_with (first
  |(at_make;refine wpList_make_full _ rfl _ _ 34 rfl w.heap.size 52 bi (.agg #[.int .u8 0,.int .u32 0]) 2 Tryz.underlying34 ad bn bp .i64 .i64 (j:Int) (j:Int) j rfl rfl rfl rfl (by rw[bq];omega) (by unfold maxLen;omega) (by simp) ?_;intro a2 am s;have K:aa w a2:=⟨s.os,s.tape,s.output,s.size,fun i hi=>s.block i hi (by simp)⟩;have W:=K.cell W)
  |fail)
 have J:=qm am
 have a3:=Lib.hid K
 have O:=Lib.hid J
 have br:=J.lt
 obtain⟨g,ab⟩:∃g,g=w.heap.size:=⟨_,rfl⟩
 have bt:w.heap.size≤g:=by omega
 rw[←ab]at O br ⊢
 clear am s K J ab
 go_loopg [17] j (fun gk s wr=>∃(d:Nat) (es:List Edge),s=.int .i64 (d:Int)∧d+gk=j∧es.length=j∧bL wr g es∧(∀i,i<d→∀r,rs[i]?=some r→es[i]?=some r.2)∧ae (fun t=>t=g) a2 wr)
 case atStart=>exact⟨0,_,rfl,by omega,by simp,O.out,fun i hi=>by omega,ae.refl _ _⟩
 case round=>
  obtain⟨d,es,rfl,U,O,s,K,J⟩:=hrel;have q:=Lib.hid O;have z:=Lib.hid s;have E:=Lib.hid K;have a5:=Lib.hid J;have U:aa w wr:=a3.out.new J (fun t ad=>by omega);have S:=Lib.hid U;have W:=s.lt;clear O s K J U;by_cases A:d<j
  ·obtain⟨r,N⟩:∃b,rs[d]?=some b:=⟨_,List.getElem?_eq_getElem (by rw[I.out];exact A)⟩;obtain⟨be,bg,b,off,bb,a7,a8,a'⟩:=(a4.out.U S.out) d r N;obtain⟨y,av⟩:∃b,es[d]?=some b:=⟨_,List.getElem?_eq_getElem (by rw[q.out];exact A)⟩;obtain⟨s,J⟩:=z.out.cell av;have s:=z.out.frozen (d*2);have s:=z.out.frozen (d*2+1);have a6:=Lib.hid N;have s:wr.heap.size≠g:=(by omega);have s:g≠wr.heap.size:=(by omega);obtain⟨f,e⟩:=r;dsimp only at a7 a8 a';subst bb;clear N av bg be;go_wp2_with fail
   go_roundg (gk-1)
   case rel=>
    refine⟨d+1,es.set d e,by simp,by omega,by rw[List.length_set,q.out],?_,fun i hi bs L=>?_,?_⟩;·exact(z.out.set d e (by rw[q.out];exact A)).U ((aa.refl _).alloc _)
    ·by_cases hid:i=d
     ·subst hid;rw[a6.out]at L;cases L;rw[List.getElem?_set_self (by rw[q.out];exact A)]
     ·rw[List.getElem?_set_ne (fun e=>hid e.symm)];exact E.out i (by omega) bs L
    ·exact(cE (P:=fun t=>t=g) rfl (cE (P:=fun t=>t=g) rfl a5.out _ _) _ _).alloc _
   case measure=>omega
  ·have s:d=j:=by omega
   have Z:es=rs.map Prod.snd:=by
    apply List.ext_getElem?;intro i;by_cases hi:i<j
    ·have j:rs[i]?=some (rs[i]'(by rw[I.out];exact hi)):=List.getElem?_eq_getElem _;rw[E.out i (by omega) _ j,List.getElem?_map,j];rfl
    ·rw[List.getElem?_eq_none (by rw[q.out];omega),List.getElem?_eq_none (by rw[List.length_map,I.out];omega)]
   have j:bL wr g (rs.map Prod.snd)∧aa w wr:=⟨by rw[←Z];exact z.out,S.out⟩;have T:=Lib.hid j;clear Z j E q;go_wp2_with fail
   go_ret
   exact⟨g,rfl,bt,T.out.1,T.out.2⟩

def jU (rs j:List (Int×Edge))(es:List Edge):Prop:=j.length=rs.length∧∀(i:Nat) (r:Int×Edge) (e:Edge),rs[i]?=some r→es[i]?=some e→j[i]?=some (r.1,e)

theorem jU.snd {rs j:List (Int×Edge)}{es:List Edge}(h:jU rs j es)(q:es.length=rs.length):j.map Prod.snd=es:=by
 apply List.ext_getElem?;intro i;by_cases hi:i<rs.length
 ·have q:rs[i]?=some (rs[i]'hi):=List.getElem?_eq_getElem _;have j:es[i]?=some (es[i]'(by omega)):=List.getElem?_eq_getElem _;rw[List.getElem?_map,h.2 i _ _ q j,j];rfl
 ·rw[List.getElem?_eq_none (by rw[List.length_map,h.1];omega),List.getElem?_eq_none (by omega)]

theorem sE {F:Nat→Prop}{w:World}{I lb cap av b3 s g:Nat}{U:Option Addr}{M:St}{rs:List (Int×Edge)}{es:List Edge}(S:eB w I U s cap av b3)(bi:cA w U lb rs)(ad:bL w g es)(a8:rs.length=s)(a7:es.length=s)(bx:s≤1048576)
  (be:∀e∈es,e.ok) (h:ag F w av M) (bp:g≠lb) (bq:I≠lb) (b5:¬F g) (br:¬F lb) (b6:¬F I) (b4:lb<w.heap.size) :
  Calls Tryz.prog 170 #[.pointer (some ⟨I,0,none⟩),.slice (some ⟨g,0,none⟩) s s] w fun e aw=>∃(F':Nat→Prop) (t:List (Int×Edge)),e=.returned (.tuple #[])∧jU rs t es∧cA aw U lb t∧ag F' aw av (cK M (es.map Edge.to))∧(∀j,F' j→F j∨w.heap.size≤j)∧ae (fun j=>F j∨j=lb) w aw:=by
 have av:=aD S.c0
 have a4:=Lib.hid h
 have K:=Lib.hid a8
 have X:=Lib.hid a7
 have a1:=Lib.hid be
 have W:=Lib.hid S
 have a3:=Lib.hid bi
 have Z:=Lib.hid ad
 have av:=S.c2
 have av:=ad.lt
 clear h a8 a7 be S bi ad
 go_enter Tryz.func170,Tryz.ntmps170
 go_wp2_with fail
 go_loopg [8] s (fun gk S wr=>∃(d:Nat) (t:List (Int×Edge)),S=.int .i64 (d:Int)∧d+gk=s∧t.length=s∧cA wr U lb t∧(∀(i:Nat) (r:Int×Edge) (e:Edge),rs[i]?=some r→es[i]?=some e→t[i]?=some (r.1,if i<d then e else r.2))∧ae (fun j=>j=lb) w wr)
 case atStart=>exact⟨0,rs,rfl,by omega,K.out,a3.out,fun i r e z A=>by rw[if_neg (by omega)];exact z,ae.refl _ _⟩
 case round=>
  obtain⟨d,t,rfl,aw,av,U,ad,S⟩:=hrel;have J:=Lib.hid av;have L:=Lib.hid U;have O:=Lib.hid ad;have E:=Lib.hid S;have aw:=S.size;clear av U ad S;by_cases T:d<s
  ·obtain⟨r,N⟩:∃b,t[d]?=some b:=⟨_,List.getElem?_eq_getElem (by rw[J.out];exact T)⟩;obtain⟨e,am⟩:∃b,es[d]?=some b:=⟨_,List.getElem?_eq_getElem (by rw[X.out];exact T)⟩;obtain⟨q,bg⟩:∃b,rs[d]?=some b:=⟨_,List.getElem?_eq_getElem (by rw[K.out];exact T)⟩;obtain⟨b0,S,U,ad⟩:=L.out.cell N;have S:=L.out.frozen N (d*3+1);have S:=L.out.frozen N (d*3+2);obtain⟨S,U⟩:=(Z.out.a4 E.out bp).cell am;have S:=(W.out.a4 E.out bq).c2;have S:g<wr.heap.size:=(by omega);have S:lb<wr.heap.size:=(by omega);have S:I<wr.heap.size:=(by omega);have S:wr.heap.size≠g:=(by omega);have S:wr.heap.size≠lb:=(by omega);have S:wr.heap.size≠I:=(by omega);have a5:=Lib.hid N;have a6:=Lib.hid am;have a2:=Lib.hid bg;subst b0;clear N am bg;go_wp2_with fail
   go_region
   go_wp2_with fail
   go_roundg (gk-1)
   case rel=>
    have b2:r.1=q.1:=by
     have:=O.out d q e a2.out a6.out;rw[a5.out]at this;cases this;rfl
    refine⟨d+1,t.set d (r.1,e),by simp,by omega,by rw[List.length_set,J.out],?_,fun i p x z A=>?_,?_⟩;·exact(L.out.set a5.out e).U (((aa.refl _).alloc _).drew)
    ·by_cases hid:i=d
     ·subst hid;rw[a2.out]at z;rw[a6.out]at A;cases z;cases A;rw[List.getElem?_set_self (by rw[J.out];exact T),if_pos (by omega),b2]
     ·rw[List.getElem?_set_ne (fun e=>hid e.symm),O.out i p x z A];by_cases I:i<d;·rw[if_pos I,if_pos (by omega)]
      ·rw[if_neg I,if_neg (by omega)]
    ·exact((cE (P:=fun j=>j=lb) rfl (cE (P:=fun j=>j=lb) rfl E.out _ _) _ _).alloc _).drew
   case measure=>omega
  ·have ad:d=s:=by omega
   have T:jU rs t es:=⟨by rw[J.out,K.out],fun i r e z A=>by
    have:=O.out i r e z A;rw[if_pos (by have:=(List.getElem?_eq_some_iff.1 z).1;rw[K.out]at this;omega)]at this
    exact this⟩
   have N:=a4.out.a4 E.out (fun k z A=>br (A ▸ z));have I:=Z.out.a4 E.out bp;have S:∀z,aa wr z→fF z (some ⟨g,0,none⟩) s es:=fun z A=>⟨X.out,fun i e U=>((I.U A).at a1.out) i e U⟩;have U:=fun(z:World) (A:aa wr z)=>qK (N.U A) (some ⟨g,0,none⟩) s s es (S z A) bx;have s:=(W.out.a4 E.out bq).c0;have bw:=Lib.hid U;have bt:=Lib.hid T;have s:lb<wr.heap.size:=(by omega);clear U T S N I ad O X K a1 Z W a4 a3 J;go_wp2_with fail
   refine(bw.out _ (by(exact kp))).mono ?_;rintro e bs ⟨rfl,ab,a'⟩;have bb:ae (fun j=>F j∨j=lb) w bs:=(E.out.mono (fun k _ s=>.inr s)).a' (ab.mono (fun k _ s=>.inl s));have Y:=Lib.hid (⟨L.out.a4 ab br,a',bb⟩:_∧_∧_)
   have bn:∀j,ao F wr bs j→F j∨w.heap.size≤j:=fun j b1=>by
    rcases b1 with q|q;·exact .inl q
    ·exact .inr (by omega)
   have bv:=Lib.hid bn;clear ab a' bb bn;go_wp2_with fail
   first|go_end0|refine bodyPost_ret (results_none rfl _ _ _) rfl ?_
   exact⟨_,t,rfl,bt.out,Y.out.1,Y.out.2.1,bv.out,Y.out.2.2⟩

theorem tW {n:Int}(s:n≤6):∀j:Nat,(j:Int)+1<n→df (j:Int) 0≤126:=fun j s=>by
 have q:j=0∨j=1∨j=2∨j=3∨j=4:=by omega
 rcases q with rfl|rfl|rfl|rfl|rfl<;>decide

theorem sC {F Fo:Nat→Prop}{w:World}{E lb cap W U:Nat}{T:Option Addr}{M:St}{ps:List Int}{t:List (Int×List Bool)}{rs:List (Int×Edge)}(h:fQ F Fo w E lb T cap W U M ps t rs)(lv:Nat)(cn:lv+1<ps.length) :
  Calls Tryz.prog 106 #[.pointer (some ⟨E,0,none⟩),.int .i64 (lv:Int)] w fun e ab=>e=.returned (.bool true)∧cF F Fo (fun _=>False) w ab E lb T cap W U (bG ps lv) t:=by
 have L:rs.length=t.length:=h.cp.1
 obtain⟨b5,b6,a'⟩:=h.nb
 obtain⟨bb,a2⟩:=h.nl
 obtain⟨b0,cy⟩:=h.fx
 have a4:=h.n6
 have br:=h.b0
 have a1:=h.bw.n
 have cv:=(h.cp.size h.bw.a5 h.perm a1 a4 (by have:=h.bw.a5.wf.c6;have:=h.bx;omega)).2
 have cl:=h.len
 have b1:=h.room
 have b2:∀A,ae (fun J=>F J∨Fo J) w A→dJ A T rs:=fun A s=>(h.row.a4 s (fun j=>by rcases j with q|q;exact bb q;exact a2 q)).roots (fun r b0=>⟨by have:=(h.cp.leads r b0).1;omega,h.cp.fa r b0⟩)
 have bp:jL M ps.length (lv:Int) rs=0:=by unfold jL;rw[if_pos a1,if_neg (by omega)];exact xp h.bw.a5.wf h.cp.leads
 have b4:=fun(A:World) (s:aa w A)=>by
  have:=AB (c:=126) (h.bw.a5.U s) (h.bw.cd.U s) h.bw.dr (lv:Int) T cap (fun W' b0=>b2 W' ((s.av _).a' b0)) (by omega) (fun _ b0=>tW (n:=M.n) (by omega) lv b0) (by decide) (by rw[L];omega) h.bw.room;rw[bp,Int.toNat_natCast,L]at this
  exact this.mono (fun r w1 j=>(by
   rcases j with⟨a6,_⟩|⟨cb,j⟩
   ·exact absurd rfl a6
   ·exact .inr ⟨cb,j.gf s⟩:fT F Fo w W U M ps [lv] rs 126 0 r w1))
 -- what swap makes, and what take makes of it
 have bw:∀r w1,fT F Fo w W U M ps [lv] rs 126 0 r w1→∃g,r=.returned (.tuple #[.slice (some ⟨g,0,none⟩) t.length t.length,.int .u8 0])∧eB w1 E T t.length cap W U ∧
   ∀A,aa w1 A→Calls Tryz.prog 170 #[.pointer (some ⟨E,0,none⟩),.slice (some ⟨g,0,none⟩) t.length t.length] A fun e ab=>e=.returned (.tuple #[])∧cF F Fo (fun _=>False) w ab E lb T cap W U (bG ps lv) t:=by
  intro r w1 j
  rcases j with⟨a6,_⟩|⟨_,g,es,M',F',rfl,cf,T,am,a5,K,ci,ce,av,N⟩
  ·exact absurd rfl a6
  ·have cx:∀e∈es,e.ok:=fun e ch=>by
    obtain⟨k,Z⟩:=List.mem_iff_getElem?.1 ch;have T:=(List.getElem?_eq_some_iff.1 Z).1;exact(am.2 k _ e (List.getElem?_eq_getElem (by rw[←am.1];exact T)) Z).ok
   have T:=av.size;have a8:¬F' E:=fun j=>(by rcases K E j with q|q;exact b5 q;omega);have b7:¬F' lb:=fun j=>(by rcases K lb j with q|q;exact bb q;omega);have O:=h.cells.a4 av (fun j=>by rcases j with q|q;exact b5 q;exact b6 q);have co:=h.row.a4 av (fun j=>by rcases j with q|q;exact bb q;exact a2 q);refine⟨g,by rw[L],O,fun A s=>?_⟩;have A:=s.size;have A:es.length=t.length:=am.1.trans L;refine(sE (O.U s) (co.U s) (cf.U s) L A (by omega) cx (a5.U s) (by omega) a' ci b7 a8 (by omega)).mono ?_;rintro e ab ⟨bg,be,rfl,a7,cp,bt,ad,Y⟩;refine⟨rfl,bg,cK M' (es.map Edge.to),be,?_,?_,?_⟩
   ·have A:ae (fun J=>F' J∨J=lb) w1 ab:=(s.av _).a' Y;have T:ct M' (bG ps lv) t be:=h.cp.step (ss:=[lv]) am a7.1 a7.2;have A:=a7.snd (by omega)
    have cq:ct (cK M' (es.map Edge.to)) (bG ps lv) t be:=by
     have:=T.eu (by rw[A];exact bt.wf);rwa[A]at this
    have bv:M'.n=(ps.length:Int):=(by rw[N.ext.n,a1]);have bx:=na cn h.perm;have aw:=gV ps lv;have b3:=T.size a5 bx (by rw[aw];exact bv) (by rw[aw];exact a4) (by have:=N.wf.c6;have:=N.room;have:=h.bx;omega);rw[A]at b3
    have cg:∀k,bg k→¬Fo k:=fun k cd bq=>by
     have Z:=h.bw.cd.lt k bq;rcases ad k cd with q|q
     ·rcases K k q with z|z;·exact h.bw.dr k z bq
      ·omega
     ·omega
    refine⟨⟨bt,(ce.U s).a4 Y (fun k a3 ca=>?_),cg,?_,?_⟩,bx,by rw[aw];exact a4,br,?_,?_,by show M'.room≤_;rw[N.room];exact h.bx,cq,cp,(O.U s).a4 Y (fun j=>?_),⟨fun j=>?_,b6,a'⟩,⟨fun j=>?_,a2⟩,?_⟩
    ·rcases ca with q|q
     ·rcases K k q with z|z;·exact h.bw.dr k z a3
      ·have:=h.bw.cd.lt k a3;omega
     ·subst q;exact a2 a3
    ·show M'.n=_;rw[bv,aw]
    ·show M'.room<_;rw[N.room];exact h.bw.room
    ·rw[qP a5];exact_mod_cast b3.1
    ·show _<M'.room;rw[N.room];exact b1
    ·rcases j with q|q;·exact a8 q
     ·exact a' q
    ·rcases ad E j with q|q;·exact a8 q
     ·omega
    ·rcases ad lb j with q|q;·exact b7 q
     ·omega
    ·have:=Y.size;omega
   ·intro J cj;rcases ad J cj with q|q
    ·rcases K J q with z|z;·exact .inl z
     ·exact .inr z
    ·exact .inr (by omega)
   ·refine(av.mono (fun k _ Z=>?_)).b8 ((s.av _).a' Y) (fun i hi j=>?_)
    ·rcases Z with q|q;·exact .inl q
     ·exact .inr (.inl q)
    ·rcases j with q|q
     ·rcases K i q with z|z;·exact .inl z
      ·omega
     ·exact .inr (.inr (.inl q))
 have S:=h.cells
 have bn:=Lib.hid b4
 have bi:=Lib.hid bw
 obtain⟨s,bs⟩:∃s,s=t.length:=⟨_,rfl⟩
 rw[←bs]at bn bi S br
 have s:=S.c0
 have s:=S.c1
 have s:=S.c2
 have s:=S.c3
 clear b4 bw bp b2 cl b1 cv a1 h L bs S
 go_enter Tryz.func106,Tryz.ntmps106
 go_wp2_with fail
 refine nK 13 #[true,true,true,true,true,true,true,true,true,true,true,true,true,false,false,false,false,false,false] (by kernel_rfl) (by kernel_rfl) ?_
 simp only[List.take_succ_cons,List.take_zero,List.drop_succ_cons,List.drop_zero]
 repeat still_step
 refine wpStill_nil ?_
 refine wpAny_ready (fuel:=5) (rs:=[13]) (by kernel_rfl) (by decide) (AllReady.cons rfl (fun X I=>?_) AllReady.nil)
 go_simp
 refine(bn.out _ (by(exact kp))).mono ?_
 rintro r w1 j
 obtain⟨g,rfl,O,s⟩:=bi.out _ _ j
 have b9:=Lib.hid s
 have t:=O.c3
 clear j s O
 refine I _ _ ?_
 clear I X
 refine wpAny_take (i:=14) (v:=?_) rfl (by kernel_rfl) (by kernel_rfl) (by kernel_rfl) (fun _ _ _ h=>h) (Or.inl ⟨by rfl,?_⟩) ?_
 rotate_left
 ·intro w;go_simp;try with_reducible rfl
 refine wpAny_take (i:=15) (v:=?_) rfl (by kernel_rfl) (by kernel_rfl) (by kernel_rfl) (fun _ _ _ h=>h) (Or.inl ⟨by rfl,?_⟩) ?_
 rotate_left
 ·intro w;go_simp;try with_reducible rfl
 refine wpAny_take (i:=16) (v:=?_) rfl (by kernel_rfl) (by kernel_rfl) (by kernel_rfl) (fun _ _ _ h=>h) (Or.inl ⟨by rfl,?_⟩) ?_
 rotate_left
 ·intro w;go_simp;try with_reducible rfl
 refine wpAny_ready (rs:=[17]) (by kernel_rfl) (by decide) (AllReady.cons rfl (fun X I=>?_) AllReady.nil)
 go_simp
 refine I _ _ ?_
 clear I X
 refine wpAny_ready (rs:=[18]) (by kernel_rfl) (by decide) (AllReady.cons rfl (fun X I=>?_) AllReady.nil)
 go_simp
 refine I _ _ ?_
 clear I X
 refine wpAny_done (by kernel_rfl) ?_ _
 go_wp2_with fail
 refine(b9.out _ (by(exact kp))).mono ?_
 rintro e j ⟨rfl,j⟩
 have b8:=Lib.hid j
 clear j
 go_wp2_with fail
 go_ret
 exact⟨rfl,b8.out⟩

theorem sD {s Fo A:Nat→Prop}{w0 w:World}{t lb cap N L:Nat}{K:Option Addr}{ps:List Int}{E:List (Int×List Bool)}(h:cF s Fo A w0 w t lb K cap N L ps E)(lv:Nat)(T:lv+1<ps.length) :
  Calls Tryz.prog 106 #[.pointer (some ⟨t,0,none⟩),.int .i64 (lv:Int)] w fun e z=>e=.returned (.bool true)∧cF s Fo A w0 z t lb K cap N L (bG ps lv) E∧ae (fun j=>s j∨Fo j∨j=lb∨w0.heap.size≤j) w z:=by
 obtain⟨F,M,rs,j,I,O⟩:=h
 refine(sC j lv T).mono ?_
 rintro e z ⟨rfl,J⟩
 refine⟨rfl,cF.next I O (fun _ j=>j.elim) J,?_⟩
 obtain⟨_,_,_,_,_,j⟩:=J
 refine j.mono (fun k _ S=>?_)
 rcases S with q|q|q|q
 ·rcases I k q with j|j;·exact .inl j
  ·exact .inr (.inr (.inr j))
 ·exact .inr (.inl q)
 ·exact .inr (.inr (.inl q))
 ·exact q.elim

end Go.Proofs.YtafkamlhimkbmaaGreat
