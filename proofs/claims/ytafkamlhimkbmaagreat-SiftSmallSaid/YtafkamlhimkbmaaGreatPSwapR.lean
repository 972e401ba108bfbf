/-
  Plainly: what steps, one behind the other, make of roots and of the order.
-/
import Derived.Test.YtafkamlhimkbmaaGreatPSetW
import Derived.Test.YtafkamlhimkbmaaGreatPSiftP
namespace Go.Proofs.YtafkamlhimkbmaaGreat
set_option maxRecDepth 1000000
set_option maxHeartbeats 8000000
set_option linter.unusedSimpArgs false
set_option linter.unusedVariables false

def aJ (ps:List Int)(ss:List Nat):List Int:=ss.foldl aq ps

theorem eP (ss:List Nat):∀ps:List Int,(aJ ps ss).length=ps.length:=by
 induction ss with
 |nil=>intro ps;rfl
 |cons q ss j=>intro ps;show(aJ (aq ps q) ss).length=_;rw[j,ck]

theorem iZ (ps:List Int)(ss:List Nat)(j:Nat):aJ ps (ss++[j])=aq (aJ ps ss) j:=by
 unfold aJ;rw[List.foldl_append];rfl

theorem qQ (ss:List Nat):∀ps:List Int,(∀j∈ss,j+1<ps.length)→ar ps=true→ar (aJ ps ss)=true:=by
 induction ss with
 |nil=>intro ps _ h;exact h
 |cons j ss z=>
  intro ps q s;show ar (aJ (aq ps j) ss)=true;exact z _ (fun z t=>by rw[ck];exact q z (by simp[t])) (gy (q j (by simp)) s)

structure eW (n:Nat)(ss:List Nat)(M0 M:St)(f:Int)(e x:Edge):Prop where
 lead:M.leads f x 0=true
 ok:x.ok
 d':∀ps:List Int,ps.length=n→tabP M (aJ ps ss) f x=tabP M0 ps f e
 right:bH M0 f e 0→bH M f x 0

theorem eW.start {n:Nat}{M:St}{f:Int}{e:Edge}(q:M.leads f e 0=true)(j:e.ok):eW n [] M M f e e:=⟨q,j,fun _ _=>rfl,fun h=>h⟩

theorem eW.ext {n:Nat}{ss:List Nat}{q M M':St}{f:Int}{e x:Edge}(h:eW n ss q M f e x)(s:M.wf)(j:az M M'):eW n ss q M' f e x:=
 ⟨j.leads h.lead,h.ok,fun ps q=>by rw[lC s j h.lead];exact h.d' ps q,fun t=>dv j s (h.right t)⟩

theorem eW.step {n:Nat}{ss:List Nat}{q M M':St}{f:Int}{e x z:Edge}{lv:Nat}(h:eW n ss q M f e x)(t:M.wf)(s:az M M')(j:eU (lv:Int) f M' x 0 z)(A:lv+1<n):eW n (ss++[lv]) q M' f e z:=
 ⟨j.lead,j.ok,fun ps q=>by
  rw[iZ,j.tabP (by rw[eP,q];exact A),lC t s h.lead]
  exact h.d' ps q,fun z=>j.right (dv s t (h.right z))⟩

def ic (n:Nat)(ss:List Nat)(j M:St)(rs:List (Int×Edge))(es:List Edge):Prop:=
 es.length=rs.length∧∀(i:Nat) (r:Int×Edge) (x:Edge),rs[i]?=some r→es[i]?=some x→eW n ss j M r.1 r.2 x

def ia (n:Nat)(ss:List Nat)(lv d:Nat)(j M:St)(rs:List (Int×Edge))(es:List Edge):Prop:=
 es.length=rs.length∧∀(i:Nat) (r:Int×Edge) (x:Edge),rs[i]?=some r→es[i]?=some x→eW n (if i<d then ss++[lv]else ss) j M r.1 r.2 x

theorem ic.mid {n:Nat}{ss:List Nat}{j M:St}{rs:List (Int×Edge)}{es:List Edge}(h:ic n ss j M rs es)(lv:Nat):ia n ss lv 0 j M rs es:=
 ⟨h.1,fun i r x j q=>by rw[if_neg (by omega)];exact h.2 i r x j q⟩

theorem ia.all {n:Nat}{ss:List Nat}{lv:Nat}{j M:St}{rs:List (Int×Edge)}{es:List Edge}(h:ia n ss lv rs.length j M rs es):ic n (ss++[lv]) j M rs es:=
 ⟨h.1,fun i r x j q=>by
  have:=h.2 i r x j q;rw[if_pos (List.getElem?_eq_some_iff.1 j).1]at this
  exact this⟩

theorem ia.next {n:Nat}{ss:List Nat}{lv d:Nat}{s M M':St}{rs:List (Int×Edge)}{es:List Edge}{r:Int×Edge}{x I:Edge}(h:ia n ss lv d s M rs es)(z:rs[d]?=some r)(E:es[d]?=some x)(A:M.wf)(t:az M M')(J:eU (lv:Int) r.1 M' x 0 I)(K:lv+1<n) :
  ia n ss lv (d+1) s M' rs (es.set d I):=by
 refine⟨by rw[List.length_set];exact h.1,fun i L y q j=>?_⟩
 by_cases hid:i=d
 ·subst hid;rw[z]at q;cases q;rw[List.getElem?_set_self (List.getElem?_eq_some_iff.1 E).1]at j;cases j;have:=h.2 i r x z E;rw[if_neg (by omega)]at this;rw[if_pos (by omega)];exact this.step A t J K
 ·rw[List.getElem?_set_ne (fun e=>hid e.symm)]at j;have:=(h.2 i L y q j).ext A t;by_cases j:i<d
  ·rw[if_pos j]at this;rw[if_pos (by omega)];exact this
  ·rw[if_neg j]at this;rw[if_neg (by omega)];exact this

open Go.RowKit

def bA (a b:Nat):List Nat:=if a<b then(List.range (b-a)).map (fun i=>a+i)else(List.range (a-b)).map (fun i=>a-1-i)

def dO (r:Int×Edge):List Value:=[.int .u8 r.1,.int .u8 r.2.tag,.int .u32 r.2.to]

theorem pH:(Tryz.prog.info? 55).map (fun i=>(i.zero,i.size,i.bytes))=some (some (.agg #[.int .u8 0,.int .u8 0,.int .u32 0]),3,12):=by kernel_rfl

theorem iW {w:World}{s:Nat}{e:TypeId}{size:Nat}{v:Value}{n:Nat}{xs:List Value}(h:w.ownsRow s e size v n xs){k:Nat}(j:v.ownBlock=some k):s≤k:=by
 rcases h.2 with⟨q,_⟩|⟨z,s,t,q,A,_⟩
 ·rw[q]at j;simp[Value.ownBlock]at j
 ·rw[q]at j;simp[Value.ownBlock]at j;omega

theorem pO {M:St}{f:Int}{e:Edge}{l:Int}(t:1≤f∧f≤5)(q:M.leads f e l=true)(j:bH M f e l):gP M f e l=true:=by
 have s:f=1∨f=2∨f=3∨f=4∨f=5:=by omega
 rcases s with rfl|rfl|rfl|rfl|rfl;·exact q
 ·exact q
 ·exact j (.inl rfl)
 ·exact j (.inr (.inl rfl))
 ·exact j (.inr (.inr rfl))

structure eH (F Fo:Nat→Prop)(w:World)(sb ob bb:Nat)(f:Int)(n:Nat)(ps ws:List Int)(aw:Option Addr)(len cap:Nat):Prop where
 c0:w.cell? ⟨bb,0,none⟩=some (.pointer (some ⟨sb,0,none⟩))
 c1:w.cell? ⟨bb,1,none⟩=some (.pointer (some ⟨ob,0,none⟩))
 c2:w.cell? ⟨bb,2,none⟩=some (.int .u8 f)
 c3:w.cell? ⟨bb,3,none⟩=some (.int .i64 (n:Int))
 c4:w.cell? ⟨bb,4,none⟩=some (.slice aw len cap)
 eS:¬F bb
 fx:gI w aw ws
 nw:∀b off,aw=some ⟨b,off,none⟩→¬F b
 b7:bC Fo w ob ps
 hx:∀k,Fo k→¬F k

theorem eH.lt {F Fo:Nat→Prop}{w:World}{t s j:Nat}{f:Int}{n:Nat}{ps ws:List Int}{q:Option Addr}{len cap:Nat}(h:eH F Fo w t s j f n ps ws q len cap):j<w.heap.size:=aD h.c0

theorem eH.step {F F' Fo:Nat→Prop}{w w':World}{S O L:Nat}{f:Int}{n:Nat}{ps ws:List Int}{K:Option Addr}{len cap:Nat}(h:eH F Fo w S O L f n ps ws K len cap)(j:ae F w w')(E:∀J,F' J→F J∨w.heap.size≤J)(U:0<ws.length):eH F' Fo w' S O L f n ps ws K len cap:=by
 have J:=h.lt;refine⟨j.cellAt h.eS h.c0,j.cellAt h.eS h.c1,j.cellAt h.eS h.c2,j.cellAt h.eS h.c3,j.cellAt h.eS h.c4,fun t=>?_,fun i x I=>?_,fun b off N t=>?_,h.b7.a5 j (fun k z J=>h.hx k z J),fun k z t=>?_⟩
 ·rcases E _ t with q|q;·exact h.eS q
  ·omega
 ·obtain⟨r,b,off,s,A⟩:=h.fx i x I;exact⟨r,b,off,s,j.cellAt (h.nw b off s) A⟩
 ·obtain⟨x,I⟩:∃x,ws[0]?=some x:=⟨_,List.getElem?_eq_getElem U⟩;obtain⟨r,j,J,s,A⟩:=h.fx 0 x I;rw[N]at s;cases s;have T:=aD A;dsimp only at T;rcases E _ t with q|q;·exact h.nw b off N q
  ·omega
 ·rcases E _ t with q|q;·exact h.hx k z q
  ·have:=h.b7.lt k z;omega

theorem eH.U {F Fo:Nat→Prop}{w w':World}{t s q:Nat}{f:Int}{n:Nat}{ps ws:List Int}{j:Option Addr}{len cap:Nat}(h:eH F Fo w t s q f n ps ws j len cap)(z:aa w w')(A:0<ws.length):eH F Fo w' t s q f n ps ws j len cap:=h.step (z.av F) (fun _ h=>.inl h) A

def dH (f:Int)(M:St)(has:Nat→Bool)(j:List Int)(x:Nat)(l:Int)(e:Edge):Prop:=aC f M j.length (bR has j x) l e∧bH M f e l

theorem dH.ext {f:Int}{M M':St}{has:Nat→Bool}(j:az M M')(t:M.wf)(s:1≤f∧f≤5){q:List Int}{x:Nat}{l:Int}{e:Edge}(h:dH f M has q x l e):dH f M' has q x l e:=
 ⟨aC.ext j s _ _ _ _ h.1,dv j t h.2⟩

theorem dH.fp {f:Int}{M:St}{has:Nat→Bool}{v:Int}{j:List Int}{x:Nat}{l:Int}{lo hi e:Edge}(q:dH f M has j x (l+1) lo)(s:dH f M has j (x ||| 2 ^ v.toNat) (l+1) hi)(t:cR f M l lo hi e)(z:bH M f e l):dH f M has (v::j) x l e:=by
 refine⟨⟨gl has (v::j) x,lo,hi,?_,?_,t⟩,z⟩
 ·show aC f M j.length ((bR has j x++bR has j (x ||| 2 ^ v.toNat)).take (2 ^ j.length)) (l+1) lo;rw[List.take_left' (gl has j x)];exact q.1
 ·show aC f M j.length ((bR has j x++bR has j (x ||| 2 ^ v.toNat)).drop (2 ^ j.length)) (l+1) hi;rw[List.drop_left' (gl has j x)];exact s.1

def iD (f:Int)(F:Nat→Prop)(q:World)(s:Nat)(M:St)(has:Nat→Bool)(j:List Int)(x:Nat)(l:Int)(r:Ending)(w':World):Prop:=
 ∃e M',r=.returned (.tuple #[.agg #[.int .u8 e.tag,.int .u32 e.to],.int .u8 0])∧e.ok∧dH f M' has j x l e∧(dg M M' ((2 ^ j.length-1:Nat):Int)∧(M.cf→M'.cf))∧bF F q w' s M'

theorem tz (f:Int)(a4:bG f=true){F Fo:Nat→Prop}{w:World}{s O K:Nat}{M:St}{n:Nat}{ps ws:List Int}{a1:Option Addr}{len cap:Nat}(h:ag F w s M)(q:eH F Fo w s O K f n ps ws a1 len cap)(a6:ws.length=len)(a7:len≤1048576)(a8:eE (n:Int) ws=true)(x:Nat)(bi:x<2 ^ n)(E:M.n=(n:Int)) :
  Calls Tryz.prog 98 #[.pointer (some ⟨K,0,none⟩),.int .i64 (n:Int),.int .i64 (x:Int)] w (iD f F w s M (hasB ws) [] x (n:Int)):=by
 have Y:=h.wf.bw
 rw[E]at Y
 have N:=fun(s:World) (O:aa w s)=>dw (h.U O)
 have L:=fun(s:World) (O:aa w s)=>zV n x a1 len cap ws s a6 a7 (q.fx.U O) a8 bi
 have a2:=fun(s:World)=>ym f (n:Int) s a4 (by omega) Y
 rw[E]at N
 have bg:1≤f∧f≤5:=by simpa[bG]using a4
 have W:dH f M (hasB ws) [] x (n:Int) (cc f (hasB ws x) (n:Int)):=⟨⟨_,rfl,rfl⟩,by rw[←E];exact pf h.wf⟩
 have T:(cc f (hasB ws x) (n:Int)).ok:=pd (by omega) Y
 have s:=q.c0
 have bb:=q.c2
 have s:=q.c3
 have s:=q.c4
 have be:=q.lt
 have s:x≤65536:=by
  have:2 ^ n≤2 ^ 16:=Nat.pow_le_pow_right (by decide) (by omega);have s:(2:Nat) ^ 16=65536:=rfl;omega
 obtain⟨b,S⟩:∃b,b=hasB ws x:=⟨_,rfl⟩
 rw[←S]at W L T
 have aw:=Lib.hid N
 have av:=Lib.hid L
 have I:=Lib.hid a2
 have J:=Lib.hid h
 have z:=Lib.hid W
 have t:=Lib.hid T
 have U:jK f (n:Int)=cc f true (n:Int):=rfl
 have X:(⟨0,0⟩:Edge)=cc f false (n:Int):=rfl
 have am:=Lib.hid S
 clear N L a2 h q W a6 a7 a8 E bg S T
 have a5:dg M M ((2 ^ ([]:List Int).length-1:Nat):Int)∧(M.cf→M.cf):=⟨dg.refl J.out.wf (by decide),fun h=>h⟩
 cases b with
 |true=>
  rw[←U]at z t;obtain⟨e,a3⟩:∃e,e=jK f (n:Int):=⟨_,rfl⟩;rw[←a3]at z t I;clear a3 U X am;go_enter Tryz.func98,Tryz.ntmps98
  go_wp2_with fail
  refine(aw.out _ (by(exact kp))).mono ?_;rintro r w1 ⟨rfl,rfl⟩;go_wp2_with fail
  refine(av.out _ (by(exact kp))).mono ?_;rintro r bn ⟨rfl,j⟩;have q:=j.cell (a:=⟨K,2,none⟩) (v:=.int .u8 f) (by simp[go_sem,bb,be]);have ab:=j.cell (a:=⟨w.heap.size,0,none⟩) (v:=.int .u8 0) (by simp[go_sem]);have ad:=j.cell (a:=⟨w.heap.size,1,none⟩) (v:=.int .u32 0) (by simp[go_sem]);have a':=fun o:Nat=>j.a2 (a:=⟨w.heap.size,o,none⟩) (by simp) (by simp[go_sem]);have Z:=j.size;simp only[World.size_alloc]at Z;go_wp2_with fail
  refine(I.out _).mono ?_;rintro r q ⟨rfl,A⟩;have bp:=A.cell ab;have bq:=A.cell ad;have q:=fun o:Nat=>A.a2 (a:=⟨w.heap.size,o,none⟩) (by dsimp only;omega) (a' o);have q:=A.size;go_wp2_with fail
  all_goals refine bodyPost_ret (v:=.tuple #[.agg #[.int .u8 e.tag,.int .u32 e.to],.int .u8 0]) (by simp[results,Tryz.results98,go_sem,bp,bq]) rfl ?_
  all_goals refine⟨e,M,rfl,t.out,z.out,a5,(bF.refl J.out).U (by(exact kp))⟩
 |false=>
  rw[←X]at z t;clear U X am I;go_enter Tryz.func98,Tryz.ntmps98
  go_wp2_with fail
  refine(aw.out _ (by(exact kp))).mono ?_;rintro r w1 ⟨rfl,rfl⟩;go_wp2_with fail
  refine(av.out _ (by(exact kp))).mono ?_;rintro r bn ⟨rfl,j⟩;have ab:=j.cell (a:=⟨w.heap.size,0,none⟩) (v:=.int .u8 0) (by simp[go_sem]);have ad:=j.cell (a:=⟨w.heap.size,1,none⟩) (v:=.int .u32 0) (by simp[go_sem]);have a':=fun o:Nat=>j.a2 (a:=⟨w.heap.size,o,none⟩) (by simp) (by simp[go_sem]);have Z:=j.size;simp only[World.size_alloc]at Z;go_wp2_with fail
  all_goals refine bodyPost_ret (v:=.tuple #[.agg #[.int .u8 0,.int .u32 0],.int .u8 0]) (by simp[results,Tryz.results98,go_sem,ab,ad]) rfl ?_
  all_goals refine⟨⟨0,0⟩,M,rfl,t.out,z.out,a5,(bF.refl J.out).U (by(exact kp))⟩

theorem tu (f:Int)(eS:bG f=true){F Fo:Nat→Prop}{w:World}{I dB T:Nat}{M:St}{n l:Nat}{ps ws:List Int}{cn:Option Addr}{len cap:Nat}(v:Int)(U:List Int)(p:Nat)(c2:2 ^ U.length=p)(fb:1≤p)(fg:p≤65536)(h:ag F w I M)(av:eH F Fo w I dB T f n ps ws cn len cap)(dj:0<ws.length)(x:Nat)(b6:x<2 ^ n)(bg:M.n=(n:Int))
  (db:ps[l]?=some v) (fi:0≤v) (fj:v<(n:Int)) (cv:l+(U.length+1)=n) (c6:M.len+((2*p-1:Nat):Int)≤M.room)
  (b7:∀(F:Nat→Prop) (j:World) (M:St) (x:Nat),ag F j I M→eH F Fo j I dB T f n ps ws cn len cap→x<2 ^ n→M.n=(n:Int)→M.len+((p-1:Nat):Int)≤M.room →
    Calls Tryz.prog 98 #[.pointer (some ⟨T,0,none⟩),.int .i64 ((l:Int)+1),.int .i64 (x:Int)] j (iD f F j I M (hasB ws) U x ((l:Int)+1))) :
  Calls Tryz.prog 98 #[.pointer (some ⟨T,0,none⟩),.int .i64 (l:Int),.int .i64 (x:Int)] w (iD f F w I M (hasB ws) (v::U) x (l:Int)):=by
 have s:1≤f∧f≤5:=by simpa[bG]using eS
 have e4:n≤16:=by have:=h.wf.bw;omega
 obtain⟨V,rfl⟩:∃V:Nat,v=(V:Int):=⟨v.toNat,by omega⟩
 have cn:x<65536:=by
  have:2 ^ n≤2 ^ 16:=Nat.pow_le_pow_right (by decide) e4;have eu:(2:Nat) ^ 16=65536:=rfl;omega
 have cn:2 ^ V<65536:=by
  have:2 ^ V<2 ^ 16:=Nat.pow_lt_pow_right (by decide) (by omega);have eu:(2:Nat) ^ 16=65536:=rfl;omega
 have dl:x ||| 2 ^ V<2 ^ n:=Nat.or_lt_two_pow b6 (Nat.pow_lt_pow_right (by decide) (by omega))
 have bq:¬F w.heap.size:=fun s=>by have:=h.lt _ s;omega
 have bx:=fun(j:World) (cn:aa w j)=>dw (h.U cn)
 rw[bg]at bx
 have el:=Lib.hid bx
 have d8:=Lib.hid (fun(j:World) (A:aa w j)=>b7 F j M x (h.U A) (av.U A dj) b6 bg (by omega))
 have ea:=Lib.hid b7
 have cn:=Lib.hid h
 have d2:=Lib.hid av
 have ce:=Lib.hid cv
 have bv:=Lib.hid c2
 have cg:=Lib.hid c6
 have J:=Lib.hid s
 have en:=Lib.hid dl
 have cf:=Lib.hid bg
 have ek:=Lib.hid db
 have ci:=Lib.hid dj
 have ew:=av.c0
 have cn:=av.lt
 have cn:¬(l:Int)=(n:Int):=by omega
 have cn:l≤16:=by omega
 have dk:=oz (x:=(V:Int)) (by omega)
 rw[Int.toNat_natCast]at dk
 have c1:=qy x (2 ^ V) (by omega) (by omega)
 have c3:((2 ^ V:Nat):Int)=2 ^ V:=by push_cast;rfl
 rw[c3]at c1
 clear h av b7 cv c2 c6 bg db bx dl c3 b6
 go_enter Tryz.func98,Tryz.ntmps98
 go_wp2_with fail
 refine(el.out _ (by(exact kp))).mono ?_
 rintro r w0 ⟨rfl,rfl⟩
 go_wp2_with fail
 refine(d8.out _ (by(exact kp))).mono ?_
 rintro r w1 ⟨lo,cj,rfl,cx,cS,⟨aw,c7⟩,bi⟩
 have a6:=bi.cell bq (o:=0) (v:=.int .u8 0) (by simp)
 have a7:=bi.cell bq (o:=1) (v:=.int .u32 0) (by simp)
 have bt:=fun o:Nat=>bi.a2 (b:=w.heap.size) (o:=o) (by simp) bq (by simp[go_sem])
 obtain⟨⟨a8,br,a4⟩,b9⟩:=bi
 have e5:=b9.size
 simp only[World.size_alloc]at a4 e5
 have ca:ae F w w1:=(aa.av ((aa.refl w).alloc _) F).a' b9
 have bn:¬a8 w.heap.size:=fun s=>by rcases a4 _ s with q|q;exact bq q;omega
 have b8:¬a8 w1.heap.size:=fun s=>by have:=br.lt _ s;omega
 have N:=d2.out.step (F':=a8) ca (fun t a2=>by rcases a4 t a2 with q|q;exact .inl q;right;omega) ci.out
 have av:cj.n=(n:Int):=by rw[aw.ext.n];exact cf.out
 have ad:=aw.len
 have bw:=aw.room
 rw[bv.out]at ad
 have d9:=Lib.hid (fun(j:World) (A:aa w1 j)=>ea.out a8 j cj (x ||| 2 ^ V) (br.U A) (N.U A ci.out) en.out av (by have:=cg.out;omega))
 have em:=Lib.hid (fun(j:World) (A:aa w1 j)=>yp (N.b7.U A) l (V:Int) ek.out)
 have er:=N.c0
 have a8:=N.c1
 have et:=N.c2
 have cp:=N.lt
 have d3:=Lib.hid N
 have a8:=Lib.hid br
 have eb:=Lib.hid cS
 have Z:=Lib.hid aw
 have ed:=Lib.hid c7
 have ee:=Lib.hid ca
 have cl:=Lib.hid a4
 have cy:w.heap.size<w1.heap.size:=by omega
 have a8:T≠w1.heap.size:=by omega
 clear br cS aw b9 ca av ad bw a4 N c7 ew
 go_wp2_with fail
 refine(em.out _ (by(exact kp))).mono ?_
 rintro r N ⟨rfl,rfl⟩
 go_wp2_with fail
 refine(d9.out _ (by(exact kp))).mono ?_
 rintro r E ⟨hi,K,rfl,cq,be,⟨z,c8⟩,S⟩
 have dr:=d3.out.eS
 have a6:=S.cell bn (o:=0) (v:=.int .u8 0) (by simp[go_sem,cy,a6])
 have a7:=S.cell bn (o:=1) (v:=.int .u32 0) (by simp[go_sem,cy,a7])
 have bt:=fun o:Nat=>S.a2 (b:=w.heap.size) (o:=o) (by simp;omega) bn (by rw[World.frozen?_alloc_old _ _ _ (by show w.heap.size≠w1.heap.size;omega)];exact bt o)
 have e':=S.cell b8 (o:=0) (v:=.int .u8 lo.tag) (by simp)
 have fa:=S.cell b8 (o:=1) (v:=.int .u32 lo.to) (by simp)
 have N:=S.cell dr (o:=0) (v:=.pointer (some ⟨I,0,none⟩)) (by simp[go_sem,cp,er])
 have N:=S.cell dr (o:=2) (v:=.int .u8 f) (by simp[go_sem,cp,et])
 obtain⟨⟨Y,X,a5⟩,cb⟩:=S
 have e6:=cb.size
 simp only[World.size_alloc]at a5 e6
 have d1:ae F w E:=(ee.out.a' (aa.av ((aa.refl w1).alloc _) F)).trans (cb.mono (fun k A s=>by
  rcases cl.out k s with q|q;·exact .inl q
  ·exact .inr ⟨by omega,A⟩))
 have bp:¬Y w.heap.size:=fun s=>by rcases a5 _ s with q|q;exact bn q;omega
 have N:¬Y w1.heap.size:=fun s=>by rcases a5 _ s with q|q;exact b8 q;omega
 have N:¬Y E.heap.size:=fun s=>by have:=X.lt _ s;omega
 have bb:=dH.ext z.ext Z.out.wf J.out eb.out
 have c0:K.n=M.n:=z.ext.n.trans Z.out.ext.n
 have e2:K.n=(n:Int):=c0.trans cf.out
 have b1:(l:Int)+1+(U.length:Int)=K.n:=by have:=ce.out;omega
 have c5:=bb.1.leads z.wf J.out b1
 have c4:=be.1.leads z.wf J.out b1
 have ad:=Z.out.len
 have co:=z.len
 have bw:=Z.out.room
 have ev:=z.room
 have e0:=ce.out
 have e3:=cg.out
 rw[bv.out]at ad co
 have a3:=qd z.wf J.out (l:=(l:Int)) (by omega) (by omega) (by omega) c5 c4 bb.2 be.2
 obtain⟨e,a'⟩:∃e,e=aH f K (ak f K (l:Int) lo hi):=⟨_,rfl⟩
 obtain⟨L,am⟩:∃L,L=aR K (ak f K (l:Int) lo hi):=⟨_,rfl⟩
 have b0:=a3.fp
 have b3:=a3.right
 have a1:=a3.cy
 rw[←a',←am]at b0 b3
 rw[←am]at a1
 have c9:K.cf→L.cf:=fun b4=>by rw[am];exact ly b4 _
 have ec:Hid (∀(j:World),aa E j→Calls Tryz.prog 71 #[.pointer (some ⟨I,0,none⟩),.int .u8 f,.int .i64 (l:Int),.agg #[.int .u8 lo.tag,.int .u32 lo.to],.agg #[.int .u8 hi.tag,.int .u32 hi.to]] j fun r w'=>r=.returned (.tuple #[.agg #[.int .u8 e.tag,.int .u32 e.to],.int .u8 0])∧bF Y j w' I L):=
  Lib.hid (fun j A=>by
   have j:=kg (X.U A) f (l:Int) lo hi cx cq;rw[kD J.out]at j;have eR:=a3.hl;refine j.mono fun r w' b2=>⟨?_,?_⟩
   ·rw[b2.1,a'];congr 2
    simp only[Array.mk.injEq,List.cons.injEq,Value.int.injEq,true_and,and_true];exact⟨rfl,eR⟩
   ·rw[am]
    exact bF.of b2.2.1 b2.2.2)
 have A:dH f L (hasB ws) ((V:Int)::U) x (l:Int) e:=by
  refine dH.fp (dH.ext a1.ext z.wf J.out bb) ?_ b0 b3;exact dH.ext a1.ext z.wf J.out be
 have I:dg M L ((2 ^ ((V:Int)::U).length-1:Nat):Int)∧(M.cf→L.cf):=by
  refine⟨((Z.out.trans z (Int.le_refl _)).trans a1 ?_),fun b4=>c9 (c8 (ed.out b4))⟩;rw[List.length_cons,Nat.pow_succ,bv.out];omega
 have j:e.ok:=by
  rw[a'];exact kQ X.wf X.bx cx cq (by omega) (by have:=X.wf.bw;omega) J.out
 have d6:=Lib.hid A
 have d7:=Lib.hid I
 have d5:=Lib.hid j
 have eg:=Lib.hid d1
 have ep:=Lib.hid a5
 have cD:w.heap.size<E.heap.size:=by omega
 have J:w1.heap.size<E.heap.size:=by omega
 have J:T<E.heap.size:=by omega
 have J:E.heap.size≠w1.heap.size:=by omega
 have J:E.heap.size≠w.heap.size:=by omega
 have J:E.heap.size≠T:=by omega
 clear X bb be z cb d1 c0 e2 b1 c5 c4 ad co bw ev e0 e3 a3 b0 b3 a1 A I j a' am a5 c8 c9 dk c1
 go_wp2_with fail
 refine jg 11 #[true,true,true,true,true,true,true,true,true,true,true,false,false,false,false,false] (by kernel_rfl) (by kernel_rfl) ?_
 simp only[List.take_succ_cons,List.take_zero,List.drop_succ_cons,List.drop_zero]
 repeat still_step
 refine wpStill_nil ?_
 refine wpAny_ready (fuel:=4) (rs:=[11]) (by kernel_rfl) (by decide) (AllReady.cons rfl (fun ab O=>?_) AllReady.nil)
 go_simp
 refine(ec.out _ (by(exact kp))).mono ?_
 rintro r e9 ⟨rfl,W⟩
 have a6:=W.cell bp (o:=0) (v:=.int .u8 0) (by simp[go_sem,cD,a6])
 have a7:=W.cell bp (o:=1) (v:=.int .u32 0) (by simp[go_sem,cD,a7])
 have bt:=fun o:Nat=>W.a2 (b:=w.heap.size) (o:=o) (by simp;omega) bp (by simp only[World.frozen?_drew];rw[World.frozen?_alloc_old _ _ _ (by show w.heap.size≠E.heap.size;omega)];exact bt o)
 have e7:=W.av.size
 simp only[World.size_alloc,World.a3]at e7
 have e1:w.heap.size<e9.heap.size:=by omega
 have b5:∀t,Y t→F t∨w.heap.size≤t:=fun t a2=>by
  rcases ep.out t a2 with q|q
  ·rcases cl.out t q with q|q;·exact .inl q
   ·right;omega
  ·right;omega
 have c':=bF.step b5 eg.out (((aa.refl E).alloc _).drew) W
 obtain⟨⟨cd,d0,bs⟩,e8⟩:=W
 simp only[World.size_alloc,World.a3]at bs
 have ds:¬cd w.heap.size:=fun s=>by rcases bs _ s with q|q;exact bp q;omega
 have da:∀t,cd t→F t∨w.heap.size≤t:=fun t a2=>by
  rcases bs t a2 with q|q;·exact b5 t q
  ·right;omega
 have ch:=Lib.hid (bF.g' d0 da c'.av ds (Nat.le_refl _))
 clear c' d0 bs e8 ds da b5 e' fa
 refine O _ _ ?_
 clear O ab
 refine wpAny_take (i:=12) (v:=?_) rfl (by kernel_rfl) (by kernel_rfl) (by kernel_rfl) (fun _ _ _ h=>h) (Or.inl ⟨by rfl,?_⟩) ?_
 rotate_left
 ·intro w;go_simp;try with_reducible rfl
 refine wpAny_take (i:=13) (v:=?_) rfl (by kernel_rfl) (by kernel_rfl) (by kernel_rfl) (fun _ _ _ h=>h) (Or.inl ⟨by rfl,?_⟩) ?_
 rotate_left
 ·intro w;go_simp;try with_reducible rfl
 refine wpAny_ready (rs:=[14]) (by kernel_rfl) (by decide) (AllReady.cons rfl (fun ab O=>?_) AllReady.nil)
 go_simp
 refine O _ _ ?_
 clear O ab
 refine wpAny_ready (rs:=[15]) (by kernel_rfl) (by decide) (AllReady.cons rfl (fun ab O=>?_) AllReady.nil)
 go_simp
 refine O _ _ ?_
 clear O ab
 refine wpAny_done (by kernel_rfl) ?_ _
 go_wp2
 all_goals refine bodyPost_ret (v:=.tuple #[.agg #[.int .u8 e.tag,.int .u32 e.to],.int .u8 0]) (by simp[results,Tryz.results98,go_sem,e1,a6,a7]) rfl ?_
 all_goals refine⟨e,L,rfl,d5.out,d6.out,d7.out,?_⟩
 all_goals first|exact(ch.out _ _)|exact(ch.out _ _).U (by(exact kp))

theorem tt (f:Int)(L:bG f=true){Fo:Nat→Prop}{J av K:Nat}{n:Nat}{ps ws:List Int}{S:Option Addr}{len cap:Nat}(U:ws.length=len)(W:len≤1048576)(I:eE (n:Int) ws=true)(N:ps.length=n)(Z:∀v∈ps,0≤v∧v<(n:Int)) :
  ∀(j pre:List Int),ps=pre++j→∀(F:Nat→Prop) (q:World) (M:St) (x:Nat),ag F q J M→eH F Fo q J av K f n ps ws S len cap→x<2 ^ n→M.n=(n:Int)→M.len+((2 ^ j.length-1:Nat):Int)≤M.room →
   Calls Tryz.prog 98 #[.pointer (some ⟨K,0,none⟩),.int .i64 (pre.length:Int),.int .i64 (x:Int)] q (iD f F q J M (hasB ws) j x (pre.length:Int)):=by
 have ad:0<ws.length:=by have:=(ix.1 I).2.1;omega
 have J:n≤16:=by have:=(ix.1 I).1;omega
 intro j
 induction j with
 |nil=>
  intro pre s F q M x h t E z A;rw[List.append_nil]at s;subst s;rw[N];exact tz f L h t U W I x E z
 |cons v j am=>
  intro pre s F q M x h t E z A;have X:pre.length+(j.length+1)=n:=by rw[←N,s,List.length_append,List.length_cons]
  have I:2 ^ j.length≤2 ^ 16:=Nat.pow_le_pow_right (by decide) (by omega);have I:(2:Nat) ^ 16=65536:=rfl;have Y:0<2 ^ j.length:=Nat.pow_pos (by decide);have T:2 ^ (j.length+1)=2*2 ^ j.length:=by rw[Nat.pow_succ];omega
  have ab:ps[pre.length]?=some v:=by rw[s,List.getElem?_append_right (Nat.le_refl _),Nat.sub_self];rfl
  have O:=Z v (by rw[s];simp);rw[List.length_cons,T]at A
  exact tu f L v j (2 ^ j.length) rfl Y (by omega) h t ad x E z ab O.1 O.2 X A (fun F q M x h t E z A=>by
   have:=am (pre++[v]) (by rw[s];simp) F q M x h t E z A;rw[List.length_append,List.length_singleton]at this
   exact_mod_cast this)

theorem tU {F Fo:Nat→Prop}{w:World}{O U:Nat}{M:St}{ps ws:List Int}(h:ag F w O M)(ab:bC Fo w U ps)(bp:∀k,F k→¬Fo k)(Z:M.n=(ps.length:Int))(f:Int)(S:bG f=true)
  (z:Option Addr) (len cap:Nat) (a2:ws.length=len) (br:len≤1048576) (J:gI w z ws) (bw:∀b off,z=some ⟨b,off,none⟩→¬F b) (N:eE (ps.length:Int) ws=true) (bx:M.len+((2 ^ ps.length-1:Nat):Int)≤M.room) :
  Calls Tryz.prog 45 #[.pointer (some ⟨O,0,none⟩),.pointer (some ⟨U,0,none⟩),.int .u8 f,.agg #[.int .i64 (ps.length:Int),.slice z len cap]] w (iD f F w O M (hasB ws) ps 0 0):=by
 have a3:=dm.1 ab.perm
 have bt:=fun(j:World) (t:aa w j)=>tT (h.U t) (ab.U t) Z f S
 have c0:0<ws.length:=by have:=(ix.1 N).2.1;omega
 have aw:=fun(j:World) (I:Nat) (t:aa w j) (cg:w.heap.size≤I) (cg:j.cell? ⟨I,0,none⟩=some (.pointer (some ⟨O,0,none⟩))) (ch:j.cell? ⟨I,1,none⟩=some (.pointer (some ⟨U,0,none⟩))) (ci:j.cell? ⟨I,2,none⟩=some (.int .u8 f)) (cj:j.cell? ⟨I,3,none⟩=some (.int .i64 (ps.length:Int))) (cl:j.cell? ⟨I,4,none⟩=some (.slice z len cap))=>by
  have cS:¬F I:=fun cn=>by have:=h.lt _ cn;omega
  have cy:eH F Fo j O U I f ps.length ps ws z len cap:=⟨cg,ch,ci,cj,cl,cS,J.U t,bw,ab.U t,fun k I cn=>bp k cn I⟩;have:=tt f S a2 br N rfl a3.2.1 ps [] rfl F j M 0 (h.U t) cy (Nat.pow_pos (by decide)) Z bx;exact this
 have am:=fun(j:World) (t:aa w j)=>dw (h.U t)
 have ad:=fun(j:World) (t:aa w j)=>qW (ps.length:Int) z len cap ws j a2 br (J.U t)
 rw[N]at ad
 rw[Z]at am
 have bs:=h.lt
 have b8:=Lib.hid bs
 obtain⟨n,bv⟩:∃n,n=ps.length:=⟨_,rfl⟩
 rw[←bv]at aw am ad ⊢
 have b9:=Lib.hid bt
 have b6:=Lib.hid aw
 have ce:=Lib.hid am
 have cb:=Lib.hid ad
 have t:n≤16:=by have:=a3.1;omega
 clear h ab bp Z a2 J bw N bx a3 bt c0 aw am ad bs bv
 go_enter Tryz.func45,Tryz.ntmps45
 go_wp2_with fail
 refine(b9.out _ (by(exact kp))).mono ?_
 rintro r w1 ⟨rfl,K⟩
 have a4:=K.cell (a:=⟨w.heap.size,0,none⟩) (v:=.int .i64 (n:Int)) (by simp[go_sem])
 have a5:=K.cell (a:=⟨w.heap.size,1,none⟩) (v:=.slice z len cap) (by simp[go_sem])
 have a':=K.cell (a:=⟨w.heap.size+1,0,none⟩) (v:=.int .u8 0) (by simp[go_sem])
 have bb:=K.cell (a:=⟨w.heap.size+1,1,none⟩) (v:=.int .u32 0) (by simp[go_sem])
 have be:=fun o:Nat=>K.a2 (a:=⟨w.heap.size+1,o,none⟩) (by simp) (by simp[go_sem])
 have c4:=K.size
 simp only[World.size_alloc]at c4
 have a1:aa w w1:=(((aa.refl w).alloc _).alloc _).trans K
 go_wp2_with fail
 have cf:=Lib.hid (fun(j:World) (J:aa w1 j)=>ce.out j (a1.trans J))
 have cd:=Lib.hid (fun(j:World) (J:aa w1 j)=>cb.out j (a1.trans J))
 have c2:=aj.cell a4
 have c3:=aj.cell a5
 refine dT (w1) (by kernel_rfl) (by kernel_rfl) (by(exact kp)) ?_;(repeat (go_big_quiet_step ((first|(go_at_call 97;with_reducible refine Calls.b5 (cd.out _ (aj.a5 _)))|(go_at_call 48;with_reducible refine Calls.et (cf.out _ (aj.a5 _)))))));refine wpQuiet_nil ?_;rintro E ⟨⟨_,L⟩,rfl⟩;try dsimp only
 replace a4:=L.cell a4
 replace a5:=L.cell a5
 replace a':=L.cell a'
 replace bb:=L.cell bb
 replace be:=fun o:Nat=>L.a2 (a:=⟨w.heap.size+1,o,none⟩) (by dsimp only;omega) (be o)
 have j:=L.size
 have Y:=a1.trans L
 clear c2 c3
 go_wp2_with fail
 obtain⟨s,A⟩:∃s,s=E.alloc (.cells #[.pointer (some ⟨O,0,none⟩),.pointer (some ⟨U,0,none⟩),.int .u8 f,.int .i64 (n:Int),.slice z len cap] 175):=⟨_,rfl⟩
 have X:aa E s:=by rw[A];exact(aa.refl _).alloc _
 have co:s.cell? ⟨E.heap.size,0,none⟩=some (.pointer (some ⟨O,0,none⟩)):=by rw[A];simp[go_sem]
 have cp:s.cell? ⟨E.heap.size,1,none⟩=some (.pointer (some ⟨U,0,none⟩)):=by rw[A];simp[go_sem]
 have cq:s.cell? ⟨E.heap.size,2,none⟩=some (.int .u8 f):=by rw[A];simp[go_sem]
 have cv:s.cell? ⟨E.heap.size,3,none⟩=some (.int .i64 (n:Int)):=by rw[A];simp[go_sem]
 have cx:s.cell? ⟨E.heap.size,4,none⟩=some (.slice z len cap):=by rw[A];simp[go_sem]
 have j:s.heap.size=E.heap.size+1:=by rw[A];simp
 rw[←A]
 clear A
 have a7:=X.cell a'
 have a8:=X.cell bb
 have b4:=fun o:Nat=>X.a2 (a:=⟨w.heap.size+1,o,none⟩) (by dsimp only;omega) (be o)
 refine(b6.out s E.heap.size (Y.trans X) Y.size co cp cq cv cx).mono ?_
 rintro r c5 ⟨e,M',rfl,N,bn,bq,T⟩
 have av:¬F (w.heap.size+1):=fun S=>by have:=b8.out _ S;omega
 replace a7:=T.cell av a7
 replace a8:=T.cell av a8
 replace b4:=fun o:Nat=>T.a2 (b:=w.heap.size+1) (o:=o) (by omega) av (b4 o)
 have c1:w.heap.size+1<c5.heap.size:=by have:=T.av.size;omega
 have b3:=(bF.after (Y.trans X) T).av
 obtain⟨⟨bg,b1,a6⟩,-⟩:=T
 have b0:¬bg (w.heap.size+1):=fun S=>by
  rcases a6 _ S with q|q;·exact av q
  ·omega
 have b2:∀W,bg W→F W∨w.heap.size≤W:=fun W cD=>by
  rcases a6 W cD with q|q;·exact .inl q
  ·right;have:=Y.size;omega
 have bi:=Lib.hid (bF.g' b1 b2 b3 b0 (Nat.le_succ _))
 have ca:=Lib.hid N
 have b5:=Lib.hid bn
 have b7:=Lib.hid bq
 clear N bn bq b1 a6 b2 b3 b0
 go_wp2_with fail
 all_goals refine bodyPost_ret (v:=.tuple #[.agg #[.int .u8 e.tag,.int .u32 e.to],.int .u8 0]) (by simp[results,Tryz.results45,go_sem,c1,a7,a8]) rfl ?_
 all_goals refine⟨e,M',rfl,ca.out,b5.out,b7.out,?_⟩
 all_goals first|exact(bi.out _ _)|exact(bi.out _ _).U (by(exact kp))

def gV (w:World)(a:Option Addr)(ts:List Bool):Prop:=∀i b,ts[i]?=some b→∃g off,a=some ⟨g,off,none⟩∧w.cell? ⟨g,off+i,none⟩=some (.bool b)

theorem gV.U {w w':World}{a:Option Addr}{ts:List Bool}(h:gV w a ts)(t:aa w w'):gV w' a ts:=fun i b q=>by
 obtain⟨g,off,j,s⟩:=h i b q;exact⟨g,off,j,t.cell s⟩

def fh (n:Nat)(ws:List Int):List Bool:=(List.range (2 ^ n)).map (hasB ws)

theorem qY (n:Nat)(ws:List Int):(fh n ws).length=2 ^ n:=by unfold fh;simp

theorem qX {n:Nat}{ws:List Int}{x:Nat}(h:x<2 ^ n):(fh n ws)[x]?=some (hasB ws x):=by
 unfold fh;rw[List.getElem?_map,List.getElem?_range h];rfl

theorem pF:(Tryz.prog.info? 4).map (fun i=>(i.zero,i.size,i.bytes))=some (some (.bool false),1,1):=by kernel_rfl

theorem A3 (a0:Option Addr)(cap0:Nat)(ps:List Int)(a1:Option Addr)(bt:Nat)(ts:List Bool)(w:World)(a3:aG w a0 ps)(ab:ar ps=true)(a4:gV w a1 ts)(Z:ts.length=2 ^ ps.length) :
  Calls Tryz.prog 115 #[.slice a0 ps.length cap0,.slice a1 (2 ^ ps.length) bt] w fun e w'=>∃B q,e=.returned (.slice (some ⟨B,0,none⟩) (2 ^ ps.length) (2 ^ ps.length))∧bu w' B q∧q.length=2 ^ ps.length∧(∀j,j<2 ^ ps.length→q[aT j ps]?=ts[j]?)∧aa w w':=by
 obtain⟨N,a',-⟩:=dm.1 ab
 have X:=fun(j:Nat) (E:j≤65535) (A:World) (S:aa w A)=>uW a0 cap0 ps A (a3.U S) N (fun x bb=>by have:=a' x bb;omega) j E
 have t:=fun(j:Nat)=>gK j ps
 have Y:=fun(j a1:Nat) (E:j<2 ^ ps.length) (bt:a1<2 ^ ps.length) (h:aT j ps=aT a1 ps)=>o4 ab E bt h
 have a8:2 ^ ps.length≤2 ^ 16:=Nat.pow_le_pow_right (by decide) N
 have a2:(2:Nat) ^ 16=65536:=rfl
 obtain⟨p,ad⟩:∃p,p=2 ^ ps.length:=⟨_,rfl⟩
 rw[←ad]at Z a8 ⊢
 simp only[←ad]at t Y
 rw[a2]at a8
 obtain⟨n,a6⟩:∃n,n=ps.length:=⟨_,rfl⟩
 rw[←a6]at X ⊢
 obtain⟨b1,bx,b2,b3,b4⟩:=info_parts pF
 have bi:=Lib.hid X
 have br:=Lib.hid t
 have bn:=Lib.hid Y
 have bs:=Lib.hid a4
 have bq:=Lib.hid Z
 clear a3 ab a4 Z N a' X t Y ad a6 a2
 go_enter Tryz.func115,Tryz.ntmps115
 go_wp2_with (first
  |(at_make;refine wpList_make_full _ rfl _ _ 62 rfl w.heap.size 4 b1 (.bool false) 1 Tryz.underlying62 bx b2 b3 .i64 .i64 (p:Int) (p:Int) p rfl rfl rfl rfl (by rw[b4];omega) (by unfold maxLen;omega) (by simp) ?_;intro w1 a7 s)
  |fail)
 have be:=Lib.hid (lZ a7)
 have a5:aa w w1:=⟨s.os,s.tape,s.output,s.size,fun i hi=>s.block i hi (by simp)⟩
 have bp:=Lib.hid a5
 clear a7 s a5
 go_wp2_with fail
 go_loopg [6] p (fun gk s wr=>∃(x:Nat) (q:List Bool),x+gk=p∧s=.int .i64 (x:Int)∧q.length=p∧bu wr w.heap.size q∧(∀j,j<x→q[aT j ps]?=ts[j]?)∧ae (fun s=>s=w.heap.size) w1 wr)
 case atStart=>exact⟨0,_,by omega,rfl,by simp,be.out,fun j E=>by omega,ae.refl _ _⟩
 case round=>
  obtain⟨x,q,bb,rfl,U,N,X,s⟩:=hrel;have z:=Lib.hid N;have I:=Lib.hid U;have am:=Lib.hid X;have L:=Lib.hid s;have Y:=bp.out.new s (fun k Z=>by omega);have K:=Lib.hid Y;clear N U X s Y;by_cases t:x<p
  ·have aw:=Lib.hid (fun(A:World) (S:aa wr A)=>bi.out x (by omega) A (K.out.trans S));have J:=br.out x;obtain⟨b,T⟩:∃b,ts[x]?=some b:=⟨_,List.getElem?_eq_getElem (by rw[bq.out];exact t)⟩;obtain⟨g,off,rfl,W⟩:=bs.out x b T;have s:=K.out.cell W;have bw:=aD W;dsimp only at bw;obtain⟨D,O⟩:∃D,D=aT x ps:=⟨_,rfl⟩;rw[←O]at aw J;obtain⟨A,s⟩:∃A,q[D]?=some A:=⟨_,List.getElem?_eq_getElem (by rw[I.out];exact J)⟩;have A:=z.out.cell s;have A:=z.out.frozen D;have A:g≠w.heap.size:=(by omega);have A:w.heap.size≠g:=(by omega);have av:=Lib.hid O;have bg:=Lib.hid T;have bv:D<p:=J;have U:=z.out.lt;clear T W O s J;go_wp2_with fail
   go_region_held3 (fun w'=>w'.cell? ⟨g,off+x,none⟩=some (.bool b)) (go_keep) ((go_at_call 185;refine(aw.out _ (by(exact kp))).mono ?_;rintro s s ⟨rfl,rfl⟩))
   all_goals(try go_wp2_with fail)
   all_goals go_roundg (gk-1)
   all_goals(try(show gk-1<gk;omega))
   all_goals refine⟨x+1,q.set D b,by omega,by simp,by rw[List.length_set,I.out],?_,fun j E=>?_,?_⟩
   all_goals first
    |exact(L.out.setCell (p:=⟨w.heap.size,D,none⟩) (.inl rfl) _).drew
    |exact L.out.drew.setCell (p:=⟨w.heap.size,D,none⟩) (.inl rfl) _
    |exact L.out.setCell (p:=⟨w.heap.size,D,none⟩) (.inl rfl) _
    |exact((z.out.set D b).a5 (aa.av ((aa.refl _).drew) (fun _=>False)) (fun h=>h))
    |(by_cases e:j=x
      ·subst e;rw[←av.out,List.getElem?_set_self (by rw[I.out];exact bv),bg.out]
      ·have A:D≠aT j ps:=fun s=>e (bn.out j x (by omega) t (s.symm.trans av.out));rw[List.getElem?_set_ne A]
       exact am.out j (by omega))
  ·have b0:x=p:=(by omega);subst b0;go_wp2_with fail
   go_ret
   exact⟨w.heap.size,q,rfl,z.out,I.out,am.out,K.out⟩

theorem A8 {ps ws:List Int}{q:List Bool}(t:ar ps=true)(A:q.length=2 ^ ps.length)(h:∀j,j<2 ^ ps.length→q[aT j ps]?=(fh ps.length ws)[j]?):q=bR (hasB ws) ps 0:=by
 apply List.ext_getElem?;intro y;by_cases z:y<2 ^ ps.length
 ·obtain⟨j,s,rfl⟩:=o5 t z;rw[h j s,qX s,lY,nd t s]
 ·rw[List.getElem?_eq_none (by omega),List.getElem?_eq_none (by rw[gl];omega)]

theorem rM (a0:Option Addr)(cap0:Nat)(ps ws:List Int)(I:Option Addr)(K:Nat)(f:Int)(X:1≤f∧f≤5)(w:World)(N:aG w a0 ps)(J:ar ps=true)(L:ps.length≤6)(O:gV w I (fh ps.length ws)) :
  Calls Tryz.prog 64 #[.slice a0 ps.length cap0,.int .u8 f,.slice I (2 ^ ps.length) K] w fun e w'=>e=.returned (.string (bj f ps.length (bR (hasB ws) ps 0) 0))∧aa w w':=by
 have a1:2 ^ ps.length≤2 ^ 6:=Nat.pow_le_pow_right (by decide) L
 have aw:(2:Nat) ^ 6=64:=rfl
 have A:=fun(j:World) (T:aa w j)=>A3 a0 cap0 ps I K (fh ps.length ws) j (N.U T) J (O.U T) (qY _ _)
 have q:=fun(t:List Bool) (K:t.length=2 ^ ps.length) (h:∀I,I<2 ^ ps.length→t[aT I ps]?=(fh ps.length ws)[I]?)=>A8 J K h
 have s:=fun(B:Nat) (j:World) (z:bu j B (bR (hasB ws) ps 0))=>Bk f X ps.length (by omega) 0 (2 ^ ps.length) (bR (hasB ws) ps 0) 0 j (wZ z) (gl _ _ _) (Nat.le_refl _) (by omega) (by omega) (by omega)
 obtain⟨E,S⟩:∃E,E=bR (hasB ws) ps 0:=⟨_,rfl⟩
 rw[←S]at q s ⊢
 obtain⟨j,hS⟩:∃j,j=fh ps.length ws:=⟨_,rfl⟩
 rw[←hS]at A q
 obtain⟨n,Y⟩:∃n,n=ps.length:=⟨_,rfl⟩
 rw[←Y]at A q s ⊢
 obtain⟨j,Z⟩:∃j,j=bj f n E 0:=⟨_,rfl⟩
 rw[←Z]at s ⊢
 have ad:=Lib.hid A
 have ab:=Lib.hid q
 have av:=Lib.hid s
 clear A q s N J O L a1 aw S hS Y Z X
 go_enter Tryz.func64,Tryz.ntmps64
 go_wp2_with fail
 refine(ad.out _ (by(exact kp))).mono ?_
 rintro e w1 ⟨B,t,rfl,z,W,U,j⟩
 have a2:=ab.out t W U
 subst a2
 have am:=Lib.hid (av.out B _ z)
 clear z W U
 go_wp2_with fail
 refine am.out.mono ?_
 rintro e j ⟨rfl,j⟩
 go_wp2_with fail
 go_ret
 exact⟨rfl,by(exact kp)⟩

end Go.Proofs.YtafkamlhimkbmaaGreat
