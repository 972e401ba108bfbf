/-
  Plainly: what steps, one behind the other, make of roots and of the order.
-/
import Derived.Test.YtafkamlhimkbmaaGreatPSetW
namespace Go.Proofs.YtafkamlhimkbmaaGreat
set_option maxRecDepth 1000000
set_option maxHeartbeats 8000000
set_option linter.unusedSimpArgs false
set_option linter.unusedVariables false

def bk (ps:List Int)(ss:List Nat):List Int:=ss.foldl bG ps

theorem eX (ss:List Nat):∀ps:List Int,(bk ps ss).length=ps.length:=by
 induction ss with
 |nil=>intro ps;rfl
 |cons q ss j=>intro ps;show(bk (bG ps q) ss).length=_;rw[j,gV]

theorem iX (ps:List Int)(ss:List Nat)(j:Nat):bk ps (ss++[j])=bG (bk ps ss) j:=by
 unfold bk;rw[List.foldl_append];rfl

theorem zm (ss:List Nat):∀ps:List Int,(∀j∈ss,j+1<ps.length)→aA ps=true→aA (bk ps ss)=true:=by
 induction ss with
 |nil=>intro ps _ h;exact h
 |cons j ss z=>
  intro ps q s;show aA (bk (bG ps j) ss)=true;exact z _ (fun z t=>by rw[gV];exact q z (by simp[t])) (na (q j (by simp)) s)

structure eN (n:Nat)(ss:List Nat)(M0 M:St)(f:Int)(e x:Edge):Prop where
 lead:M.leads f x 0=true
 ok:x.ok
 dk:∀ps:List Int,ps.length=n→tabP M (bk ps ss) f x=tabP M0 ps f e
 right:bE M0 f e 0→bE M f x 0

theorem eN.start {n:Nat}{M:St}{f:Int}{e:Edge}(q:M.leads f e 0=true)(j:e.ok):eN n [] M M f e e:=⟨q,j,fun _ _=>rfl,fun h=>h⟩

theorem eN.ext {n:Nat}{ss:List Nat}{q M M':St}{f:Int}{e x:Edge}(h:eN n ss q M f e x)(s:M.wf)(j:au M M'):eN n ss q M' f e x:=
 ⟨j.leads h.lead,h.ok,fun ps q=>by rw[k7 s j h.lead];exact h.dk ps q,fun t=>dq j s (h.right t)⟩

theorem eN.step {n:Nat}{ss:List Nat}{q M M':St}{f:Int}{e x z:Edge}{lv:Nat}(h:eN n ss q M f e x)(t:M.wf)(s:au M M')(j:eL (lv:Int) f M' x 0 z)(A:lv+1<n):eN n (ss++[lv]) q M' f e z:=
 ⟨j.lead,j.ok,fun ps q=>by
  rw[iX,j.tabP (by rw[eX,q];exact A),k7 t s h.lead]
  exact h.dk ps q,fun z=>j.right (dq s t (h.right z))⟩

def ic (n:Nat)(ss:List Nat)(j M:St)(rs:List (Int×Edge))(es:List Edge):Prop:=
 es.length=rs.length∧∀(i:Nat) (r:Int×Edge) (x:Edge),rs[i]?=some r→es[i]?=some x→eN n ss j M r.1 r.2 x

def ia (n:Nat)(ss:List Nat)(lv d:Nat)(j M:St)(rs:List (Int×Edge))(es:List Edge):Prop:=
 es.length=rs.length∧∀(i:Nat) (r:Int×Edge) (x:Edge),rs[i]?=some r→es[i]?=some x→eN n (if i<d then ss++[lv]else ss) j M r.1 r.2 x

theorem ic.mid {n:Nat}{ss:List Nat}{j M:St}{rs:List (Int×Edge)}{es:List Edge}(h:ic n ss j M rs es)(lv:Nat):ia n ss lv 0 j M rs es:=
 ⟨h.1,fun i r x j q=>by rw[if_neg (by omega)];exact h.2 i r x j q⟩

theorem ia.all {n:Nat}{ss:List Nat}{lv:Nat}{j M:St}{rs:List (Int×Edge)}{es:List Edge}(h:ia n ss lv rs.length j M rs es):ic n (ss++[lv]) j M rs es:=
 ⟨h.1,fun i r x j q=>by
  have:=h.2 i r x j q;rw[if_pos (List.getElem?_eq_some_iff.1 j).1]at this
  exact this⟩

theorem ia.next {n:Nat}{ss:List Nat}{lv d:Nat}{s M M':St}{rs:List (Int×Edge)}{es:List Edge}{r:Int×Edge}{x I:Edge}(h:ia n ss lv d s M rs es)(z:rs[d]?=some r)(E:es[d]?=some x)(A:M.wf)(t:au M M')(J:eL (lv:Int) r.1 M' x 0 I)(K:lv+1<n) :
  ia n ss lv (d+1) s M' rs (es.set d I):=by
 refine⟨by rw[List.length_set];exact h.1,fun i L y q j=>?_⟩
 by_cases hid:i=d
 ·subst hid;rw[z]at q;cases q;rw[List.getElem?_set_self (List.getElem?_eq_some_iff.1 E).1]at j;cases j;have:=h.2 i r x z E;rw[if_neg (by omega)]at this;rw[if_pos (by omega)];exact this.step A t J K
 ·rw[List.getElem?_set_ne (fun e=>hid e.symm)]at j;have:=(h.2 i L y q j).ext A t;by_cases j:i<d
  ·rw[if_pos j]at this;rw[if_pos (by omega)];exact this
  ·rw[if_neg j]at this;rw[if_neg (by omega)];exact this

open Go.RowKit

theorem xT (a:Option Addr)(cap:Nat)(ps:List Int)(w:World)(h:aL w a ps)(t:ps.length≤16)(i:Nat)(x:Int)(j:ps[i]?=some x) :
  Calls Tryz.prog 176 #[.slice a ps.length cap,.int .i64 (i:Int)] w fun e q=>e=.returned (.int .i64 x)∧w=q:=by
 obtain⟨b,off,rfl,q⟩:=h i x j
 have hi:=(List.getElem?_eq_some_iff.1 j).1
 obtain⟨q,s⟩:∃q,q=ps.length:=⟨_,rfl⟩
 rw[←s]at t hi ⊢
 clear h j s
 go_enter Tryz.func176,Tryz.ntmps176
 go_wp2
 go_ret
 exact⟨rfl,rfl⟩

theorem xV {F:Nat→Prop}{w:World}{z:Nat}{ps:List Int}(h:bA F w z ps)(i:Nat)(x:Int)(t:ps[i]?=some x) :
  Calls Tryz.prog 164 #[.pointer (some ⟨z,0,none⟩),.int .i64 (i:Int)] w fun e E=>e=.returned (.int .i64 x)∧w=E:=by
 obtain⟨z,E,J,I,A,q,hi⟩:=h.cells
 have j:=Lib.hid (xT z E ps w hi h.le i x t)
 obtain⟨n,s⟩:∃n,n=ps.length:=⟨_,rfl⟩
 rw[←s]at A q j
 clear h q hi s t
 go_enter Tryz.func164,Tryz.ntmps164
 go_wp2_with (first|(go_at_call 176;refine j.out.mono ?_;rintro e w1 ⟨rfl,rfl⟩)|fail)
 go_ret
 exact⟨rfl,rfl⟩

theorem Ak (room:Int)(a:Option Addr)(cap:Nat)(ps:List Int)(w:World)(h:aL w a ps)(A:aA ps=true)(T:0≤room)(U:room≤1048576) :
  Calls Tryz.prog 44 #[.int .i64 room,.slice a ps.length cap] w fun e s=>∃q j F Fo,e=.returned (.tuple #[.pointer (some ⟨q,0,none⟩),.pointer (some ⟨j,0,none⟩),.bool true])∧aa w s∧ag F s q (St.new (ps.length:Int) room)∧bA Fo s j ps∧(∀k,F k→¬Fo k)∧(∀k,F k→w.heap.size≤k)∧(∀k,Fo k→w.heap.size≤k):=by
 have X:=(dp.1 A).1
 have t:=fun(s:World) (W:aa w s)=>xW a cap ps s (h.U W) (by omega)
 have hS:=fun(s:World)=>Aq (ps.length:Int) room s (by omega) (by omega) T U
 simp only[A,if_true]at t
 obtain⟨s,J⟩:∃s,s=ps.length:=⟨_,rfl⟩
 rw[←J]at t hS X ⊢
 have N:=Lib.hid t
 have S:=Lib.hid hS
 clear t hS h A J
 go_enter Tryz.func44,Tryz.ntmps44
 go_wp2_with (first|(go_at_call 68;refine(S.out _).mono ?_;rintro e w1 ⟨q,F,rfl,z,hF,K⟩)|fail)
 refine(N.out _ z).mono ?_
 rintro e s ⟨L,j,Fo,rfl,s,I⟩
 have E:=Lib.hid K
 have O:=Lib.hid s
 clear K s
 go_wp2_with fail
 refine bodyPost_ret (v:=.tuple #[.pointer (some ⟨q,0,none⟩),.pointer (some ⟨j,0,none⟩),.bool true]) (by simp[results,Tryz.results44,go_sem]) rfl ⟨q,j,F,Fo,rfl,z.trans L,E.out.U L,O.out,fun k s t=>?_,hF,fun k s=>?_⟩
 ·have:=E.out.lt k s;have:=I k t;omega
 ·have:=I k s;have:=z.size;omega

theorem tj {F Fo:Nat→Prop}{w:World}{s q:Nat}{M:St}{ps:List Int}(h:ag F w s M)(z:bA Fo w q ps)(J:M.n=(ps.length:Int))(f:Int)(I:bD f=true) :
  Calls Tryz.prog 96 #[.pointer (some ⟨s,0,none⟩),.pointer (some ⟨q,0,none⟩),.int .u8 f] w fun e N=>e=.returned (.int .u8 0)∧aa w N:=by
 have j:=Lib.hid (fun(q:World) (s:aa w q)=>dz (h.U s))
 have A:=Lib.hid (fun(q:World) (s:aa w q)=>mE (z.U s))
 have t:=ij f
 rw[I]at t
 have K:=Lib.hid t
 rw[J]at j
 have L:=z.le
 obtain⟨q,E⟩:∃q,q=ps.length:=⟨_,rfl⟩
 rw[←E]at j A L
 clear h z J t I E
 go_enter Tryz.func96,Tryz.ntmps96
 go_wp2_with (first|(go_at_call 48;refine(j.out _ (by(exact kp))).mono ?_;rintro e w1 ⟨rfl,rfl⟩)|(go_at_call 99;refine(A.out _ (by(exact kp))).mono ?_;rintro e w1 ⟨rfl,rfl⟩)|(go_at_call 100;refine(K.out _).mono ?_;rintro e w1 ⟨rfl,rfl⟩)|fail)
 go_ret
 exact⟨rfl,by(exact kp)⟩

structure eA (F Fo:Nat→Prop)(w:World)(sb ob bb:Nat)(f:Int)(n:Nat)(ps ws:List Int)(aw:Option Addr)(len cap:Nat):Prop where
 c0:w.cell? ⟨bb,0,none⟩=some (.pointer (some ⟨sb,0,none⟩))
 c1:w.cell? ⟨bb,1,none⟩=some (.pointer (some ⟨ob,0,none⟩))
 c2:w.cell? ⟨bb,2,none⟩=some (.int .u8 f)
 c3:w.cell? ⟨bb,3,none⟩=some (.int .i64 (n:Int))
 c4:w.cell? ⟨bb,4,none⟩=some (.slice aw len cap)
 ek:¬F bb
 fi:gE w aw ws
 nw:∀b off,aw=some ⟨b,off,none⟩→¬F b
 cd:bA Fo w ob ps
 ho:∀k,Fo k→¬F k

theorem eA.lt {F Fo:Nat→Prop}{w:World}{t s j:Nat}{f:Int}{n:Nat}{ps ws:List Int}{q:Option Addr}{len cap:Nat}(h:eA F Fo w t s j f n ps ws q len cap):j<w.heap.size:=aD h.c0

theorem eA.step {F F' Fo:Nat→Prop}{w T:World}{S O L:Nat}{f:Int}{n:Nat}{ps ws:List Int}{K:Option Addr}{len cap:Nat}(h:eA F Fo w S O L f n ps ws K len cap)(j:ae F w T)(E:∀J,F' J→F J∨w.heap.size≤J)(W:0<ws.length):eA F' Fo T S O L f n ps ws K len cap:=by
 have J:=h.lt;refine⟨j.cellAt h.ek h.c0,j.cellAt h.ek h.c1,j.cellAt h.ek h.c2,j.cellAt h.ek h.c3,j.cellAt h.ek h.c4,fun t=>?_,fun i x I=>?_,fun b off N t=>?_,h.cd.a4 j (fun k z J=>h.ho k z J),fun k z t=>?_⟩
 ·rcases E _ t with q|q;·exact h.ek q
  ·omega
 ·obtain⟨r,b,off,s,A⟩:=h.fi i x I;exact⟨r,b,off,s,j.cellAt (h.nw b off s) A⟩
 ·obtain⟨x,I⟩:∃x,ws[0]?=some x:=⟨_,List.getElem?_eq_getElem W⟩;obtain⟨r,j,J,s,A⟩:=h.fi 0 x I;rw[N]at s;cases s;have U:=aD A;dsimp only at U;rcases E _ t with q|q;·exact h.nw b off N q
  ·omega
 ·rcases E _ t with q|q;·exact h.ho k z q
  ·have:=h.cd.lt k z;omega

theorem eA.U {F Fo:Nat→Prop}{w z:World}{t s q:Nat}{f:Int}{n:Nat}{ps ws:List Int}{j:Option Addr}{len cap:Nat}(h:eA F Fo w t s q f n ps ws j len cap)(A:aa w z)(E:0<ws.length):eA F Fo z t s q f n ps ws j len cap:=h.step (A.av F) (fun _ h=>.inl h) E

def dC (f:Int)(M:St)(has:Nat→Bool)(j:List Int)(x:Nat)(l:Int)(e:Edge):Prop:=az f M j.length (bO has j x) l e∧bE M f e l

theorem dC.ext {f:Int}{M M':St}{has:Nat→Bool}(j:au M M')(t:M.wf)(s:1≤f∧f≤5){q:List Int}{x:Nat}{l:Int}{e:Edge}(h:dC f M has q x l e):dC f M' has q x l e:=
 ⟨az.ext j s _ _ _ _ h.1,dq j t h.2⟩

theorem dC.fb {f:Int}{M:St}{has:Nat→Bool}{v:Int}{j:List Int}{x:Nat}{l:Int}{lo hi e:Edge}(q:dC f M has j x (l+1) lo)(s:dC f M has j (x ||| 2 ^ v.toNat) (l+1) hi)(t:cP f M l lo hi e)(z:bE M f e l):dC f M has (v::j) x l e:=by
 refine⟨⟨fW has (v::j) x,lo,hi,?_,?_,t⟩,z⟩
 ·show az f M j.length ((bO has j x++bO has j (x ||| 2 ^ v.toNat)).take (2 ^ j.length)) (l+1) lo;rw[List.take_left' (fW has j x)];exact q.1
 ·show az f M j.length ((bO has j x++bO has j (x ||| 2 ^ v.toNat)).drop (2 ^ j.length)) (l+1) hi;rw[List.drop_left' (fW has j x)];exact s.1

def iD (f:Int)(F:Nat→Prop)(q:World)(s:Nat)(M:St)(has:Nat→Bool)(j:List Int)(x:Nat)(l:Int)(r:Ending)(t:World):Prop:=
 ∃e M',r=.returned (.tuple #[.agg #[.int .u8 e.tag,.int .u32 e.to],.int .u8 0])∧e.ok∧dC f M' has j x l e∧(de M M' ((2 ^ j.length-1:Nat):Int)∧(M.cg→M'.cg))∧bC F q t s M'

theorem sL (f:Int)(a4:bD f=true){F Fo:Nat→Prop}{w:World}{s O K:Nat}{M:St}{n:Nat}{ps ws:List Int}{a1:Option Addr}{len cap:Nat}(h:ag F w s M)(q:eA F Fo w s O K f n ps ws a1 len cap)(a6:ws.length=len)(a7:len≤1048576)(a8:ey (n:Int) ws=true)(x:Nat)(bi:x<2 ^ n)(E:M.n=(n:Int)) :
  Calls Tryz.prog 98 #[.pointer (some ⟨K,0,none⟩),.int .i64 (n:Int),.int .i64 (x:Int)] w (iD f F w s M (hasB ws) [] x (n:Int)):=by
 have Y:=h.wf.br
 rw[E]at Y
 have N:=fun(s:World) (O:aa w s)=>dz (h.U O)
 have L:=fun(s:World) (O:aa w s)=>zC n x a1 len cap ws s a6 a7 (q.fi.U O) a8 bi
 have a2:=fun(s:World)=>xQ f (n:Int) s a4 (by omega) Y
 rw[E]at N
 have bg:1≤f∧f≤5:=by simpa[bD]using a4
 have W:dC f M (hasB ws) [] x (n:Int) (bV f (hasB ws x) (n:Int)):=⟨⟨_,rfl,rfl⟩,by rw[←E];exact oP h.wf⟩
 have T:(bV f (hasB ws x) (n:Int)).ok:=oO (by omega) Y
 have s:=q.c0
 have bb:=q.c2
 have s:=q.c3
 have s:=q.c4
 have be:=q.lt
 have s:x≤65536:=by
  have:2 ^ n≤2 ^ 16:=Nat.pow_le_pow_right (by decide) (by omega);have s:(2:Nat) ^ 16=65536:=rfl;omega
 obtain⟨b,S⟩:∃b,b=hasB ws x:=⟨_,rfl⟩
 rw[←S]at W L T
 have aw:=Lib.hid N
 have av:=Lib.hid L
 have I:=Lib.hid a2
 have J:=Lib.hid h
 have z:=Lib.hid W
 have t:=Lib.hid T
 have U:jG f (n:Int)=bV f true (n:Int):=rfl
 have X:(⟨0,0⟩:Edge)=bV f false (n:Int):=rfl
 have am:=Lib.hid S
 clear N L a2 h q W a6 a7 a8 E bg S T
 have a5:de M M ((2 ^ ([]:List Int).length-1:Nat):Int)∧(M.cg→M.cg):=⟨de.refl J.out.wf (by decide),fun h=>h⟩
 cases b with
 |true=>
  rw[←U]at z t;obtain⟨e,a3⟩:∃e,e=jG f (n:Int):=⟨_,rfl⟩;rw[←a3]at z t I;clear a3 U X am;go_enter Tryz.func98,Tryz.ntmps98
  go_wp2_with fail
  refine(aw.out _ (by(exact kp))).mono ?_;rintro r w1 ⟨rfl,rfl⟩;go_wp2_with fail
  refine(av.out _ (by(exact kp))).mono ?_;rintro r bn ⟨rfl,j⟩;have q:=j.cell (a:=⟨K,2,none⟩) (v:=.int .u8 f) (by simp[go_sem,bb,be]);have ab:=j.cell (a:=⟨w.heap.size,0,none⟩) (v:=.int .u8 0) (by simp[go_sem]);have ad:=j.cell (a:=⟨w.heap.size,1,none⟩) (v:=.int .u32 0) (by simp[go_sem]);have a':=fun o:Nat=>j.a2 (a:=⟨w.heap.size,o,none⟩) (by simp) (by simp[go_sem]);have Z:=j.size;simp only[World.size_alloc]at Z;go_wp2_with fail
  refine(I.out _).mono ?_;rintro r q ⟨rfl,A⟩;have bp:=A.cell ab;have bq:=A.cell ad;have q:=fun o:Nat=>A.a2 (a:=⟨w.heap.size,o,none⟩) (by dsimp only;omega) (a' o);have q:=A.size;go_wp2_with fail
  all_goals refine bodyPost_ret (v:=.tuple #[.agg #[.int .u8 e.tag,.int .u32 e.to],.int .u8 0]) (by simp[results,Tryz.results98,go_sem,bp,bq]) rfl ?_
  all_goals refine⟨e,M,rfl,t.out,z.out,a5,(bC.refl J.out).U (by(exact kp))⟩
 |false=>
  rw[←X]at z t;clear U X am I;go_enter Tryz.func98,Tryz.ntmps98
  go_wp2_with fail
  refine(aw.out _ (by(exact kp))).mono ?_;rintro r w1 ⟨rfl,rfl⟩;go_wp2_with fail
  refine(av.out _ (by(exact kp))).mono ?_;rintro r bn ⟨rfl,j⟩;have ab:=j.cell (a:=⟨w.heap.size,0,none⟩) (v:=.int .u8 0) (by simp[go_sem]);have ad:=j.cell (a:=⟨w.heap.size,1,none⟩) (v:=.int .u32 0) (by simp[go_sem]);have a':=fun o:Nat=>j.a2 (a:=⟨w.heap.size,o,none⟩) (by simp) (by simp[go_sem]);have Z:=j.size;simp only[World.size_alloc]at Z;go_wp2_with fail
  all_goals refine bodyPost_ret (v:=.tuple #[.agg #[.int .u8 0,.int .u32 0],.int .u8 0]) (by simp[results,Tryz.results98,go_sem,ab,ad]) rfl ?_
  all_goals refine⟨⟨0,0⟩,M,rfl,t.out,z.out,a5,(bC.refl J.out).U (by(exact kp))⟩

theorem sK (f:Int)(eS:bD f=true){F Fo:Nat→Prop}{w:World}{I dB T:Nat}{M:St}{n l:Nat}{ps ws:List Int}{cn:Option Addr}{len cap:Nat}(v:Int)(U:List Int)(p:Nat)(c2:2 ^ U.length=p)(fb:1≤p)(fg:p≤65536)(h:ag F w I M)(av:eA F Fo w I dB T f n ps ws cn len cap)(dj:0<ws.length)(x:Nat)(b6:x<2 ^ n)(bg:M.n=(n:Int))
  (db:ps[l]?=some v) (fi:0≤v) (fj:v<(n:Int)) (cv:l+(U.length+1)=n) (c6:M.len+((2*p-1:Nat):Int)≤M.room)
  (b7:∀(F:Nat→Prop) (j:World) (M:St) (x:Nat),ag F j I M→eA F Fo j I dB T f n ps ws cn len cap→x<2 ^ n→M.n=(n:Int)→M.len+((p-1:Nat):Int)≤M.room →
    Calls Tryz.prog 98 #[.pointer (some ⟨T,0,none⟩),.int .i64 ((l:Int)+1),.int .i64 (x:Int)] j (iD f F j I M (hasB ws) U x ((l:Int)+1))) :
  Calls Tryz.prog 98 #[.pointer (some ⟨T,0,none⟩),.int .i64 (l:Int),.int .i64 (x:Int)] w (iD f F w I M (hasB ws) (v::U) x (l:Int)):=by
 have s:1≤f∧f≤5:=by simpa[bD]using eS
 have e4:n≤16:=by have:=h.wf.br;omega
 obtain⟨V,rfl⟩:∃V:Nat,v=(V:Int):=⟨v.toNat,by omega⟩
 have cn:x<65536:=by
  have:2 ^ n≤2 ^ 16:=Nat.pow_le_pow_right (by decide) e4;have eu:(2:Nat) ^ 16=65536:=rfl;omega
 have cn:2 ^ V<65536:=by
  have:2 ^ V<2 ^ 16:=Nat.pow_lt_pow_right (by decide) (by omega);have eu:(2:Nat) ^ 16=65536:=rfl;omega
 have dl:x ||| 2 ^ V<2 ^ n:=Nat.or_lt_two_pow b6 (Nat.pow_lt_pow_right (by decide) (by omega))
 have bq:¬F w.heap.size:=fun s=>by have:=h.lt _ s;omega
 have bx:=fun(j:World) (cn:aa w j)=>dz (h.U cn)
 rw[bg]at bx
 have el:=Lib.hid bx
 have d8:=Lib.hid (fun(j:World) (A:aa w j)=>b7 F j M x (h.U A) (av.U A dj) b6 bg (by omega))
 have ea:=Lib.hid b7
 have cn:=Lib.hid h
 have d2:=Lib.hid av
 have ce:=Lib.hid cv
 have bv:=Lib.hid c2
 have cg:=Lib.hid c6
 have J:=Lib.hid s
 have en:=Lib.hid dl
 have cf:=Lib.hid bg
 have ek:=Lib.hid db
 have ci:=Lib.hid dj
 have ew:=av.c0
 have cn:=av.lt
 have cn:¬(l:Int)=(n:Int):=by omega
 have cn:l≤16:=by omega
 have dk:=nM (x:=(V:Int)) (by omega)
 rw[Int.toNat_natCast]at dk
 have c1:=pV x (2 ^ V) (by omega) (by omega)
 have c3:((2 ^ V:Nat):Int)=2 ^ V:=by push_cast;rfl
 rw[c3]at c1
 clear h av b7 cv c2 c6 bg db bx dl c3 b6
 go_enter Tryz.func98,Tryz.ntmps98
 go_wp2_with fail
 refine(el.out _ (by(exact kp))).mono ?_
 rintro r w0 ⟨rfl,rfl⟩
 go_wp2_with fail
 refine(d8.out _ (by(exact kp))).mono ?_
 rintro r w1 ⟨lo,cj,rfl,cx,cS,⟨aw,c7⟩,bi⟩
 have a6:=bi.cell bq (o:=0) (v:=.int .u8 0) (by simp)
 have a7:=bi.cell bq (o:=1) (v:=.int .u32 0) (by simp)
 have bt:=fun o:Nat=>bi.a2 (b:=w.heap.size) (o:=o) (by simp) bq (by simp[go_sem])
 obtain⟨⟨a8,br,a4⟩,b9⟩:=bi
 have e5:=b9.size
 simp only[World.size_alloc]at a4 e5
 have ca:ae F w w1:=(aa.av ((aa.refl w).alloc _) F).a' b9
 have bn:¬a8 w.heap.size:=fun s=>by rcases a4 _ s with q|q;exact bq q;omega
 have b8:¬a8 w1.heap.size:=fun s=>by have:=br.lt _ s;omega
 have N:=d2.out.step (F':=a8) ca (fun t a2=>by rcases a4 t a2 with q|q;exact .inl q;right;omega) ci.out
 have av:cj.n=(n:Int):=by rw[aw.ext.n];exact cf.out
 have ad:=aw.len
 have bw:=aw.room
 rw[bv.out]at ad
 have d9:=Lib.hid (fun(j:World) (A:aa w1 j)=>ea.out a8 j cj (x ||| 2 ^ V) (br.U A) (N.U A ci.out) en.out av (by have:=cg.out;omega))
 have em:=Lib.hid (fun(j:World) (A:aa w1 j)=>xV (N.cd.U A) l (V:Int) ek.out)
 have er:=N.c0
 have a8:=N.c1
 have et:=N.c2
 have cp:=N.lt
 have d3:=Lib.hid N
 have a8:=Lib.hid br
 have eb:=Lib.hid cS
 have Z:=Lib.hid aw
 have ed:=Lib.hid c7
 have ee:=Lib.hid ca
 have cl:=Lib.hid a4
 have cy:w.heap.size<w1.heap.size:=by omega
 have a8:T≠w1.heap.size:=by omega
 clear br cS aw b9 ca av ad bw a4 N c7 ew
 go_wp2_with fail
 refine(em.out _ (by(exact kp))).mono ?_
 rintro r N ⟨rfl,rfl⟩
 go_wp2_with fail
 refine(d9.out _ (by(exact kp))).mono ?_
 rintro r E ⟨hi,K,rfl,cq,be,⟨z,c8⟩,S⟩
 have dr:=d3.out.ek
 have a6:=S.cell bn (o:=0) (v:=.int .u8 0) (by simp[go_sem,cy,a6])
 have a7:=S.cell bn (o:=1) (v:=.int .u32 0) (by simp[go_sem,cy,a7])
 have bt:=fun o:Nat=>S.a2 (b:=w.heap.size) (o:=o) (by simp;omega) bn (by rw[World.frozen?_alloc_old _ _ _ (by show w.heap.size≠w1.heap.size;omega)];exact bt o)
 have e':=S.cell b8 (o:=0) (v:=.int .u8 lo.tag) (by simp)
 have fa:=S.cell b8 (o:=1) (v:=.int .u32 lo.to) (by simp)
 have N:=S.cell dr (o:=0) (v:=.pointer (some ⟨I,0,none⟩)) (by simp[go_sem,cp,er])
 have N:=S.cell dr (o:=2) (v:=.int .u8 f) (by simp[go_sem,cp,et])
 obtain⟨⟨Y,X,a5⟩,cb⟩:=S
 have e6:=cb.size
 simp only[World.size_alloc]at a5 e6
 have d1:ae F w E:=(ee.out.a' (aa.av ((aa.refl w1).alloc _) F)).trans (cb.mono (fun k A s=>by
  rcases cl.out k s with q|q;·exact .inl q
  ·exact .inr ⟨by omega,A⟩))
 have bp:¬Y w.heap.size:=fun s=>by rcases a5 _ s with q|q;exact bn q;omega
 have N:¬Y w1.heap.size:=fun s=>by rcases a5 _ s with q|q;exact b8 q;omega
 have N:¬Y E.heap.size:=fun s=>by have:=X.lt _ s;omega
 have bb:=dC.ext z.ext Z.out.wf J.out eb.out
 have c0:K.n=M.n:=z.ext.n.trans Z.out.ext.n
 have e2:K.n=(n:Int):=c0.trans cf.out
 have b1:(l:Int)+1+(U.length:Int)=K.n:=by have:=ce.out;omega
 have c5:=bb.1.leads z.wf J.out b1
 have c4:=be.1.leads z.wf J.out b1
 have ad:=Z.out.len
 have co:=z.len
 have bw:=Z.out.room
 have ev:=z.room
 have e0:=ce.out
 have e3:=cg.out
 rw[bv.out]at ad co
 have a3:=pE z.wf J.out (l:=(l:Int)) (by omega) (by omega) (by omega) c5 c4 bb.2 be.2
 obtain⟨e,a'⟩:∃e,e=aE f K (aj f K (l:Int) lo hi):=⟨_,rfl⟩
 obtain⟨L,am⟩:∃L,L=aM K (aj f K (l:Int) lo hi):=⟨_,rfl⟩
 have b0:=a3.fb
 have b3:=a3.right
 have a1:=a3.ca
 rw[←a',←am]at b0 b3
 rw[←am]at a1
 have c9:K.cg→L.cg:=fun b4=>by rw[am];exact kX b4 _
 have ec:Hid (∀(j:World),aa E j→Calls Tryz.prog 71 #[.pointer (some ⟨I,0,none⟩),.int .u8 f,.int .i64 (l:Int),.agg #[.int .u8 lo.tag,.int .u32 lo.to],.agg #[.int .u8 hi.tag,.int .u32 hi.to]] j fun r K=>r=.returned (.tuple #[.agg #[.int .u8 e.tag,.int .u32 e.to],.int .u8 0])∧bC Y j K I L):=
  Lib.hid (fun j A=>by
   have j:=jX (X.U A) f (l:Int) lo hi cx cq;rw[kt J.out]at j;have eR:=a3.hb;refine j.mono fun r K b2=>⟨?_,?_⟩
   ·rw[b2.1,a'];congr 2
    simp only[Array.mk.injEq,List.cons.injEq,Value.int.injEq,true_and,and_true];exact⟨rfl,eR⟩
   ·rw[am]
    exact bC.of b2.2.1 b2.2.2)
 have A:dC f L (hasB ws) ((V:Int)::U) x (l:Int) e:=by
  refine dC.fb (dC.ext a1.ext z.wf J.out bb) ?_ b0 b3;exact dC.ext a1.ext z.wf J.out be
 have I:de M L ((2 ^ ((V:Int)::U).length-1:Nat):Int)∧(M.cg→L.cg):=by
  refine⟨((Z.out.trans z (Int.le_refl _)).trans a1 ?_),fun b4=>c9 (c8 (ed.out b4))⟩;rw[List.length_cons,Nat.pow_succ,bv.out];omega
 have j:e.ok:=by
  rw[a'];exact kH X.wf X.b0 cx cq (by omega) (by have:=X.wf.br;omega) J.out
 have d6:=Lib.hid A
 have d7:=Lib.hid I
 have d5:=Lib.hid j
 have eg:=Lib.hid d1
 have ep:=Lib.hid a5
 have cD:w.heap.size<E.heap.size:=by omega
 have J:w1.heap.size<E.heap.size:=by omega
 have J:T<E.heap.size:=by omega
 have J:E.heap.size≠w1.heap.size:=by omega
 have J:E.heap.size≠w.heap.size:=by omega
 have J:E.heap.size≠T:=by omega
 clear X bb be z cb d1 c0 e2 b1 c5 c4 ad co bw ev e0 e3 a3 b0 b3 a1 A I j a' am a5 c8 c9 dk c1
 go_wp2_with fail
 refine nK 11 #[true,true,true,true,true,true,true,true,true,true,true,false,false,false,false,false] (by kernel_rfl) (by kernel_rfl) ?_
 simp only[List.take_succ_cons,List.take_zero,List.drop_succ_cons,List.drop_zero]
 repeat still_step
 refine wpStill_nil ?_
 refine wpAny_ready (fuel:=4) (rs:=[11]) (by kernel_rfl) (by decide) (AllReady.cons rfl (fun ab O=>?_) AllReady.nil)
 go_simp
 refine(ec.out _ (by(exact kp))).mono ?_
 rintro r e9 ⟨rfl,W⟩
 have a6:=W.cell bp (o:=0) (v:=.int .u8 0) (by simp[go_sem,cD,a6])
 have a7:=W.cell bp (o:=1) (v:=.int .u32 0) (by simp[go_sem,cD,a7])
 have bt:=fun o:Nat=>W.a2 (b:=w.heap.size) (o:=o) (by simp;omega) bp (by simp only[World.frozen?_drew];rw[World.frozen?_alloc_old _ _ _ (by show w.heap.size≠E.heap.size;omega)];exact bt o)
 have e7:=W.av.size
 simp only[World.size_alloc,World.a3]at e7
 have e1:w.heap.size<e9.heap.size:=by omega
 have b5:∀t,Y t→F t∨w.heap.size≤t:=fun t a2=>by
  rcases ep.out t a2 with q|q
  ·rcases cl.out t q with q|q;·exact .inl q
   ·right;omega
  ·right;omega
 have c':=bC.step b5 eg.out (((aa.refl E).alloc _).drew) W
 obtain⟨⟨cd,d0,bs⟩,e8⟩:=W
 simp only[World.size_alloc,World.a3]at bs
 have ds:¬cd w.heap.size:=fun s=>by rcases bs _ s with q|q;exact bp q;omega
 have da:∀t,cd t→F t∨w.heap.size≤t:=fun t a2=>by
  rcases bs t a2 with q|q;·exact b5 t q
  ·right;omega
 have ch:=Lib.hid (bC.g5 d0 da c'.av ds (Nat.le_refl _))
 clear c' d0 bs e8 ds da b5 e' fa
 refine O _ _ ?_
 clear O ab
 refine wpAny_take (i:=12) (v:=?_) rfl (by kernel_rfl) (by kernel_rfl) (by kernel_rfl) (fun _ _ _ h=>h) (Or.inl ⟨by rfl,?_⟩) ?_
 rotate_left
 ·intro w;go_simp;try with_reducible rfl
 refine wpAny_take (i:=13) (v:=?_) rfl (by kernel_rfl) (by kernel_rfl) (by kernel_rfl) (fun _ _ _ h=>h) (Or.inl ⟨by rfl,?_⟩) ?_
 rotate_left
 ·intro w;go_simp;try with_reducible rfl
 refine wpAny_ready (rs:=[14]) (by kernel_rfl) (by decide) (AllReady.cons rfl (fun ab O=>?_) AllReady.nil)
 go_simp
 refine O _ _ ?_
 clear O ab
 refine wpAny_ready (rs:=[15]) (by kernel_rfl) (by decide) (AllReady.cons rfl (fun ab O=>?_) AllReady.nil)
 go_simp
 refine O _ _ ?_
 clear O ab
 refine wpAny_done (by kernel_rfl) ?_ _
 go_wp2
 all_goals refine bodyPost_ret (v:=.tuple #[.agg #[.int .u8 e.tag,.int .u32 e.to],.int .u8 0]) (by simp[results,Tryz.results98,go_sem,e1,a6,a7]) rfl ?_
 all_goals refine⟨e,L,rfl,d5.out,d6.out,d7.out,?_⟩
 all_goals first|exact(ch.out _ _)|exact(ch.out _ _).U (by(exact kp))

theorem sJ (f:Int)(L:bD f=true){Fo:Nat→Prop}{J av K:Nat}{n:Nat}{ps ws:List Int}{S:Option Addr}{len cap:Nat}(U:ws.length=len)(W:len≤1048576)(I:ey (n:Int) ws=true)(N:ps.length=n)(Z:∀v∈ps,0≤v∧v<(n:Int)) :
  ∀(j pre:List Int),ps=pre++j→∀(F:Nat→Prop) (q:World) (M:St) (x:Nat),ag F q J M→eA F Fo q J av K f n ps ws S len cap→x<2 ^ n→M.n=(n:Int)→M.len+((2 ^ j.length-1:Nat):Int)≤M.room →
   Calls Tryz.prog 98 #[.pointer (some ⟨K,0,none⟩),.int .i64 (pre.length:Int),.int .i64 (x:Int)] q (iD f F q J M (hasB ws) j x (pre.length:Int)):=by
 have ad:0<ws.length:=by have:=(ix.1 I).2.1;omega
 have J:n≤16:=by have:=(ix.1 I).1;omega
 intro j
 induction j with
 |nil=>
  intro pre s F q M x h t E z A;rw[List.append_nil]at s;subst s;rw[N];exact sL f L h t U W I x E z
 |cons v j am=>
  intro pre s F q M x h t E z A;have X:pre.length+(j.length+1)=n:=by rw[←N,s,List.length_append,List.length_cons]
  have I:2 ^ j.length≤2 ^ 16:=Nat.pow_le_pow_right (by decide) (by omega);have I:(2:Nat) ^ 16=65536:=rfl;have Y:0<2 ^ j.length:=Nat.pow_pos (by decide);have T:2 ^ (j.length+1)=2*2 ^ j.length:=by rw[Nat.pow_succ];omega
  have ab:ps[pre.length]?=some v:=by rw[s,List.getElem?_append_right (Nat.le_refl _),Nat.sub_self];rfl
  have O:=Z v (by rw[s];simp);rw[List.length_cons,T]at A
  exact sK f L v j (2 ^ j.length) rfl Y (by omega) h t ad x E z ab O.1 O.2 X A (fun F q M x h t E z A=>by
   have:=am (pre++[v]) (by rw[s];simp) F q M x h t E z A;rw[List.length_append,List.length_singleton]at this
   exact_mod_cast this)

def dW (ts:List Bool)(x j:Nat):Nat:=eH ((ts.drop (max x (64*j))).take (64*(j+1)-max x (64*j)))

theorem Cg (ts:List Bool)(j:Nat):dW ts ts.length j=0:=by
 unfold dW;rw[List.drop_of_length_le (by omega),List.take_nil];rfl

theorem Ch (ts:List Bool)(j:Nat):dW ts 0 j=eH ((ts.drop (64*j)).take 64):=by
 unfold dW;rw[show max 0 (64*j)=64*j by omega,show 64*(j+1)-64*j=64 by omega]

theorem rz {ts:List Bool}{x:Nat}{b:Bool}(j:ts[x]?=some b):dW ts x (x / 64)=(if b then 1 else 0)+2*dW ts (x+1) (x / 64):=by
 obtain⟨s,q⟩:=List.getElem?_eq_some_iff.1 j;unfold dW;rw[show max x (64*(x / 64))=x by omega,show max (x+1) (64*(x / 64))=x+1 by omega,List.drop_eq_getElem_cons s,q,show 64*(x / 64+1)-x=(64*(x / 64+1)-(x+1))+1 by omega,List.take_succ_cons];rfl

theorem Ce {ts:List Bool}{x j:Nat}(q:¬j=x / 64):dW ts x j=dW ts (x+1) j:=by
 unfold dW;by_cases h:x<64*j;·rw[show max x (64*j)=64*j by omega,show max (x+1) (64*j)=64*j by omega]
 ·rw[show 64*(j+1)-max x (64*j)=0 by omega,show 64*(j+1)-max (x+1) (64*j)=0 by omega,List.take_zero,List.take_zero]

theorem Cf (ts:List Bool)(x:Nat):dW ts (x+1) (x / 64)<2 ^ 63:=by
 unfold dW;have j:=mC ((ts.drop (max (x+1) (64*(x / 64)))).take (64*(x / 64+1)-max (x+1) (64*(x / 64))));have q:((ts.drop (max (x+1) (64*(x / 64)))).take (64*(x / 64+1)-max (x+1) (64*(x / 64)))).length≤63:=by rw[List.length_take];omega
 exact Nat.lt_of_lt_of_le j (Nat.pow_le_pow_right (by decide) q)

theorem rA {ts:List Bool}{t:List Int}{x:Nat}{b:Bool}{v y:Int}(A:∀(j:Nat) (v:Int),t[j]?=some v→v=(dW ts (x+1) j:Int))(E:ts[x]?=some b)(z:t[x / 64]?=some v)(I:y=(if b then 1 else 0)+2*v)(j:Nat)(u:Int)(q:(t.set (x / 64) y)[j]?=some u):u=(dW ts x j:Int):=by
 by_cases s:j=x / 64
 ·subst s;rw[List.getElem?_set_self (List.getElem?_eq_some_iff.1 z).1]at q;have t:=A _ v z;rw[←Option.some.inj q,I,rz E,t];cases b<;>simp
 ·rw[List.getElem?_set_ne (fun e=>s e.symm)]at q;rw[Ce s];exact A j u q

theorem Cl {ts:List Bool}{x:Int}(h:x∈bu ts):0≤x∧x<2 ^ 64:=by
 unfold bu at h;obtain⟨w,_,rfl⟩:=List.mem_map.1 h;have j:=mC ((ts.drop (64*w)).take 64);have j:((ts.drop (64*w)).take 64).length≤64:=by rw[List.length_take];omega
 have q:2 ^ ((ts.drop (64*w)).take 64).length≤2 ^ 64:=Nat.pow_le_pow_right (by decide) j;have j:(2:Nat) ^ 64=18446744073709551616:=rfl;have j:(2:Int) ^ 64=18446744073709551616:=rfl;omega

theorem zE (n:Int)(B cap:Nat)(ts:List Bool)(w:World)(a6:bm w B ts)(b0:ts.length≤65536)(bw:1≤ts.length) :
  Calls Tryz.prog 46 #[.int .i64 n,.slice (some ⟨B,0,none⟩) ts.length cap] w fun e a'=>∃g,w.heap.size≤g∧e=.returned (.agg #[.int .i64 n,.slice (some ⟨g,0,none⟩) (bu ts).length (bu ts).length])∧cH a' g (bu ts)∧aa w a':=by
 have L:=lh ts
 obtain⟨b4,s,b5,b6,b7⟩:=info_parts vO
 obtain⟨I,ab⟩:∃I,I=ts.length:=⟨_,rfl⟩
 rw[←ab]at b0 bw L ⊢
 obtain⟨q,a7⟩:∃q,q=(I+63) / 64:=⟨_,rfl⟩
 rw[←a7]at L
 rw[L]
 have aw:=Lib.hid a6
 have a3:=Lib.hid ab
 have Z:=Lib.hid L
 have a8:((I:Int)+63) / 64=(q:Int):=by omega
 have a':q≤1025:=by omega
 have a':∀x:Nat,x<I→x / 64<q:=fun x bw=>by omega
 have bs:=Lib.hid a'
 clear a6 ab L a' a7
 go_enter Tryz.func46,Tryz.ntmps46
 go_wp2_with (first
  |(at_make;refine wpList_make_full _ rfl _ _ 103 rfl (w.heap.size+1) 56 b4 (.int .u64 0) 1 Tryz.underlying103 s b5 b6 .i64 .i64 _ _ q rfl rfl a8 a8 (by rw[b7];omega) (by unfold maxLen;omega) (by simp) ?_;intro w1 am O)
  |fail)
 rw[World.size_alloc]at am
 have bt:=Lib.hid (zl am)
 have S:aa (w.alloc (.cells #[.int .i64 0,.slice none 0 0] 105)) w1:=⟨O.os,O.tape,O.output,O.size,fun i hi=>O.block i hi (by simp)⟩
 have a2:=Lib.hid (((aa.refl w).alloc _).trans S)
 have bn:=S.cell (a:=⟨w.heap.size,0,none⟩) (v:=.int .i64 0) (by simp[go_sem])
 have bp:=S.cell (a:=⟨w.heap.size,1,none⟩) (v:=.slice none 0 0) (by simp[go_sem])
 have bq:=fun o:Nat=>S.a2 (a:=⟨w.heap.size,o,none⟩) (by simp) (by simp[go_sem])
 have b8:=S.size
 simp only[World.size_alloc]at b8
 clear am O S
 go_wp2_with fail
 go_loopg [6] I (fun gk O wr=>∃A:List Int,O=.int .i64 ((gk:Int)-1)∧gk≤I∧A.length=q∧(∀(j:Nat) (v:Int),A[j]?=some v→v=(dW ts gk j:Int))∧cH wr (w.heap.size+1) A∧ae (fun k=>k=w.heap.size+1) w1 wr)
 case atStart=>exact⟨List.replicate q 0,rfl,Nat.le_refl _,by simp,fun j v t=>by
  have s:j<q:=by have:=(List.getElem?_eq_some_iff.1 t).1;simpa using this
  rw[List.getElem?_replicate,if_pos s]at t;rw[←Option.some.inj t,a3.out,Cg]
  rfl,bt.out,ae.refl _ _⟩
 case round=>
  obtain⟨A,rfl,a6,ab,am,O,S⟩:=hrel;have N:=Lib.hid O;have T:=Lib.hid S;have U:=Lib.hid am;have E:=Lib.hid ab;clear O S am ab;by_cases O:0<gk
  ·obtain⟨x,b2⟩:∃x,x=gk-1:=⟨_,rfl⟩;have be:gk=x+1:=(by omega);have J:=Lib.hid be;rw[show((gk:Int)-1)=(x:Int)from by omega];have bi:x<I:=(by omega);have Y:=bs.out x bi;obtain⟨v,t⟩:∃b,A[x / 64]?=some b:=⟨_,List.getElem?_eq_getElem (by rw[E.out];exact Y)⟩;have av:=U.out _ v t;have b1:=Cf ts x;rw[J.out]at av;have I:0≤v:=by omega
   have I:v≤9223372036854775807:=by
    have I:(2:Nat) ^ 63=9223372036854775808:=rfl;omega
   obtain⟨b,W⟩:∃b,ts[x]?=some b:=⟨_,List.getElem?_eq_getElem (by rw[←a3.out];exact bi)⟩;have X:=(a2.out.new T.out (fun k bg=>by omega));have I:=(aw.out.a4 (aa.av X (fun _=>False)) (fun h=>h)).cell W;have O:=N.out.cell t;have O:=N.out.frozen (x / 64);have bx:=aD I;have I:=N.out.lt;dsimp only at bx;have a4:=Lib.hid t;have I:=Lib.hid av;have a1:=Lib.hid W;have I:w.heap.size+1≠B:=fun e=>(by have:=aw.out.lt;omega);have O:B≠w.heap.size+1:=fun e=>I e.symm;have I:=rz W;have O:=Lib.hid I;clear t av b1 W b2 be I;cases b with
   |true=>
    go_wp2_with fail
    go_roundg (gk-1)
    case rel=>
     refine⟨A.set (x / 64) (2*v+1),congrArg (Value.int .i64) (by have:=J.out;omega),by omega,by rw[List.length_set,E.out],fun j u s=>?_,?_,?_⟩
     ·have:=J.out;rw[show gk-1=x from by omega];exact rA (fun j v h=>by have z:=U.out j v h;rw[J.out]at z;exact z) a1.out a4.out (by simp;omega) j u s
     ·have:=(N.out.set (x / 64) (2*v) (by rw[E.out];exact Y)).set (x / 64) (2*v+1) (by rw[List.length_set,E.out];exact Y);rwa[List.set_set]at this
     ·exact(T.out.setCell (p:=⟨w.heap.size+1,x / 64,none⟩) (.inl rfl) _).setCell (p:=⟨w.heap.size+1,x / 64,none⟩) (.inl rfl) _
    case measure=>omega
   |false=>
    go_wp2_with fail
    go_roundg (gk-1)
    case rel=>
     refine⟨A.set (x / 64) (2*v),congrArg (Value.int .i64) (by have:=J.out;omega),by omega,by rw[List.length_set,E.out],fun j u s=>?_,?_,?_⟩
     ·have:=J.out;rw[show gk-1=x from by omega];exact rA (fun j v h=>by have z:=U.out j v h;rw[J.out]at z;exact z) a1.out a4.out (by simp) j u s
     ·exact N.out.set (x / 64) (2*v) (by rw[E.out];exact Y)
     ·exact T.out.setCell (p:=⟨w.heap.size+1,x / 64,none⟩) (.inl rfl) _
    case measure=>omega
  ·have b3:gk=0:=(by omega);subst b3
   have bb:A=bu ts:=by
    apply List.ext_getElem?;intro j;by_cases s:j<q
    ·obtain⟨v,t⟩:∃b,A[j]?=some b:=⟨_,List.getElem?_eq_getElem (by rw[E.out];exact s)⟩;have a5:=U.out j v t;rw[Ch]at a5;have z:=nJ (ts:=ts) (w:=j) (by rw[←lh,Z.out];exact s);rw[List.getD_eq_getElem?_getD]at z;obtain⟨u,A⟩:∃b,(bu ts)[j]?=some b:=⟨_,List.getElem?_eq_getElem (by rw[Z.out];exact s)⟩;rw[A]at z;rw[t,A,a5,←z];rfl
    ·rw[List.getElem?_eq_none (by rw[E.out];omega),List.getElem?_eq_none (by rw[Z.out];omega)]
   have ad:=N.out;rw[bb]at ad;have K:=T.out;have b9:=K.cellAt (by omega) bn;have ca:=K.cellAt (by omega) bp;have j:=fun o:Nat=>K.frozen (a:=⟨w.heap.size,o,none⟩) (by dsimp only;omega) (by dsimp only;omega) (bq o);have X:=(a2.out.new K (fun k bg=>by omega));have j:=K.size;have L:w.heap.size<wr.heap.size:=(by omega);have bv:=Lib.hid ad;have j:=Lib.hid K;have br:=Lib.hid X;clear ad K X bn bp bq bb;go_wp2_with fail
   refine bodyPost_ret (v:=.agg #[.int .i64 n,.slice (some ⟨w.heap.size+1,0,none⟩) q q]) (by simp[results,Tryz.results46,go_sem,b9,ca,L]) rfl ⟨w.heap.size+1,by omega,rfl,?_,?_⟩;·exact bv.out.a4 ((ae.refl (fun k=>k=w.heap.size) wr).setCell (p:=⟨w.heap.size,0,none⟩) (.inl rfl) _ |>.setCell (p:=⟨w.heap.size,1,none⟩) (.inl rfl) _) (by omega)
   ·exact br.out.new ((ae.refl (fun k=>k=w.heap.size) wr).setCell (p:=⟨w.heap.size,0,none⟩) (.inl rfl) _ |>.setCell (p:=⟨w.heap.size,1,none⟩) (.inl rfl) _) (fun k bg=>by omega)

end Go.Proofs.YtafkamlhimkbmaaGreat
