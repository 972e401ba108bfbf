/-
  Built: a store and the document's, behind records that are found.
-/
import Derived.Test.YtafkamlhimkbmaaGreatPRefB
import Derived.Lib.SliceRun
namespace Go.Proofs.YtafkamlhimkbmaaGreat
set_option maxRecDepth 1000000
set_option maxHeartbeats 8000000
set_option linter.unusedSimpArgs false
set_option linter.unusedVariables false
open Go.RowKit
def jl (w:World)(a:Option Addr)(len:Nat)(rs:List Rec):Prop:=
 rs.length=len∧∀i r,rs[i]?=some r→r.ok∧∃b off,a=some ⟨b,off,none⟩∧∀j,j<7→w.cell? ⟨b,off+i*7+j,none⟩=(df r)[j]?
theorem ae.new {F:Nat→Prop}{w q s:World}(h:ae w q)(j:af F q s)(t:∀k,F k→w.heap.size≤k):ae w s:=by
 have s:=h.size;refine⟨j.os.trans h.os,j.tape.trans h.tape,j.output.trans h.output,eF s j.size,fun k q=>?_⟩;rw[j.block k (by omega) (fun j=>by have:=t k j;omega),h.block k q]
structure gW (w0 w:World)(sb mb:Nat)(M:St)(L:List (Int×Rec)):Prop where
 ex:∃F G,ak F w sb M∧aV G w mb M L∧(∀k,F k→¬G k)∧(∀k,F k→w0.heap.size≤k)∧(∀k,G k→w0.heap.size≤k)
 a4:ae w0 w
theorem gW.ad {w0 w s:World}{sb mb:Nat}{M:St}{q:List (Int×Rec)}(h:gW w0 w sb mb M q)(j:ae w s):gW w0 s sb mb M q:=by
 obtain⟨⟨F,G,q,s,t⟩,z⟩:=h;exact⟨⟨F,G,q.ad j,s.ad j,t⟩,z.trans j⟩
theorem gW.step {w0 w w1 t s:World}{sb mb:Nat}{M M':St}{T A:List (Int×Rec)}{F G:Nat→Prop}(W:ak F w sb M)(B:aV G w mb M T)(E:∀k,F k→¬G k)(I:∀k,F k→w0.heap.size≤k)(J:∀k,G k→w0.heap.size≤k)(L:ae w0 w)
  (O:af F w w1) (N:ak (aC F w w1) w1 sb M') (z:ae w1 t) (S:af G t s) (U:aV (aC G t s) s mb M' A):gW w0 s sb mb M' A:=by
 have A:=L.size
 have A:=O.size
 have A:=z.size
 refine⟨⟨aC F w w1,aC G t s,(N.ad z).a4 S ?_,U,?_,?_,?_⟩,((L.new O I).trans z).new S J⟩
 ·intro k j q;rcases j with j|j;·exact E k j q
  ·have:=B.lt k q;omega
 ·intro k j q;have s:=N.lt k j;rcases q with q|q
  ·rcases j with j|j;·exact E k j q
   ·have:=B.lt k q;omega
  ·omega
 ·intro k j;rcases j with j|j;·exact I k j
  ·omega
 ·intro k j;rcases j with j|j;·exact J k j
  ·omega
theorem qR (M:St)(r:Rec):(M.a7 r).n=M.n:=by
 unfold St.a7;split;·rfl
 ·split;·rfl
  ·split;·rfl
   ·rfl
theorem qS (M:St)(r:Rec):(M.a7 r).room=M.room:=by
 unfold St.a7;split;·rfl
 ·split;·rfl
  ·split;·rfl
   ·rfl
theorem qQ (M:St)(r:Rec):M.len≤(M.a7 r).len∧(M.a7 r).len≤M.len+1:=by
 unfold St.a7;split;·omega
 ·split;·omega
  ·split;·omega
   ·have:=sN (cs:=M.cs) (gone:=M.gone) (r:=r);unfold St.len;simp only[];omega
theorem wA (n room:Int)(a:Option Addr)(len cap:Nat)(rs:List Rec)(w:World)(Y:0≤n)(Z:n≤16)(ab:0≤room)(ad:room≤1048576)(bq:len≤1048576)(a1:jl w a len rs) :
  Calls Tryz.prog 34 #[.int .i64 n,.int .i64 room,.slice a len cap] w fun e w'=>∃sb mb M t,e=.returned (.tuple #[.pointer (some ⟨sb,0,none⟩),.pointer (some ⟨mb,0,none⟩),.bool true])∧gW w w' sb mb M t∧M.n=n∧M.room=room∧M.len≤len:=by
 have U:=aa a1
 clear a1
 go_enter Tryz.func34,Tryz.ntmps34
 go_wp2_with (go_at_call 68;refine(tM n room _ Y Z ab ad).mono ?_;rintro e w1 ⟨sb,F,rfl,j,hF,hS⟩)
 have a6:gW w (w1.alloc (.cells #[.slice none 0 0,.slice none 0 0,.int .u32 0,.int .i64 n,.int .i64 room] 156)) sb w1.heap.size (St.new n room) []:=by
  refine⟨⟨F,fun k=>k=w1.heap.size,hS.ad ((ae.refl _).alloc _),?_,?_,hF,?_⟩,j.alloc _⟩
  ·refine⟨⟨.slice none 0 0,.slice none 0 0,heap_alloc_new w1 _,World.ownsRow_nil _ _ _ _,World.ownsRow_nil _ _ _ _,fun k j=>by simp[Value.ownBlock]at j,fun k j=>by simp[Value.ownBlock]at j⟩,rfl,?_,St.hd Y Z ab ad,?_,?_,?_,?_,?_⟩;·intro k j;subst j;simp
   ·intro id r;simp[St.new,look_nil]
   ·simp
   ·simp[St.len,St.new]
   ·simp[St.new]
   ·intro p a';simp at a'
  ·intro k j e;subst e;exact Nat.lt_irrefl _ (hS.lt _ j)
  ·intro k e;subst e;exact j.size
 clear hS hF
 have Y:∃mb,mb=w1.heap.size:=⟨_,rfl⟩
 go_loopg [12] len (fun gk i wr=>∃(d:Nat) (M:St) (t:List (Int×Rec)),d+gk=len∧i=.int .i64 (d:Int)∧gW w wr sb w1.heap.size M t∧M.n=n∧M.room=room∧M.len≤d)
 case atStart=>exact⟨0,_,_,by omega,rfl,a6,rfl,rfl,by simp[St.new,St.len]⟩
 case round=>
  obtain⟨d,M,t,bp,rfl,al,am,av,Y⟩:=hrel;by_cases a8:d<len
  ·obtain⟨r,bb⟩:∃r,rs[d]?=some r:=⟨_,ar (by rw[U.out.1];exact a8)⟩;obtain⟨a0,b,off,rfl,aw⟩:=U.out.2 d r bb;have q:=fun Y U=>(aw Y U).trans (ar (show Y<(df r).length from U));have z:=q 0 (by omega);have A:=q 1 (by omega);have B:=q 2 (by omega);have E:=q 3 (by omega);have I:=q 4 (by omega);have J:=q 5 (by omega);have L:=q 6 (by omega);simp[df]at z A B E I J L;clear q aw;obtain⟨⟨F',aw,U,Y,Z,ab,ad⟩,q⟩:=al;have a3:=q.cell z;have bd:=q.cell A;have be:=q.cell B;have bf:=q.cell E;have bg:=q.cell I;have bi:=q.cell J;have bn:=q.cell L;have W:=aa U;have T:=aa Y;have S:=aa Z;have N:=aa ab;have a4:=aa ad;have O:=aa q;have s:=aa (And.intro z (And.intro A (And.intro B (And.intro E (And.intro I (And.intro J L))))));clear U Y Z ab ad q z A B E I J L;have q:b<wr.heap.size:=aB a3;go_wp2_with (first|(go_at_call 80;refine(kJ W.out r a0).mono ?_;rintro e q ⟨rfl,z,A⟩;have q:=aa (O.out.new z N.out);have B:=q.out.cell s.out.1;have B:=q.out.cell s.out.2.1;have B:=q.out.cell s.out.2.2.1;have B:=q.out.cell s.out.2.2.2.1;have B:=q.out.cell s.out.2.2.2.2.1;have B:=q.out.cell s.out.2.2.2.2.2.1;have B:=q.out.cell s.out.2.2.2.2.2.2;have X:=aa z;have a5:=aa A;clear z A a3 bd be bf bg bi bn)|(go_at_call 81;refine(Bu (T.out.a4 X.out (fun k j q=>S.out k q j)) r a0).mono ?_;rintro e j ⟨rfl,q,j⟩;have a7:=gW.step W.out T.out S.out N.out a4.out O.out X.out a5.out (ae.refl _) q j)|fail)
   go_roundg (gk-1)
   case rel=>exact⟨d+1,_,_,by omega,by simp,a7,by rw[qR];exact am,by rw[qS];exact av,by have:=(qQ M r).2;push_cast;omega⟩
   case measure=>omega
  ·go_wp2;exact aq (v:=.tuple #[.pointer (some ⟨sb,0,none⟩),.pointer (some ⟨w1.heap.size,0,none⟩),.bool true]) (by simp[results,Tryz.results34,go_sem]) rfl ⟨sb,w1.heap.size,M,t,rfl,al,am,av,by omega⟩
theorem Ce (sb mb:Nat)(n room:Int)(a:Option Addr)(len cap:Nat)(ids:Nat→Int)(rs:Nat→Rec)(w:World)(bw:len≤1048576)
  (X:w.cell? ⟨mb,0,none⟩=some (.slice a len cap)) (bq:w.cell? ⟨mb,3,none⟩=some (.int .i64 n)) (br:w.cell? ⟨mb,4,none⟩=some (.int .i64 room))
  (al:∀j,ae w j→Calls Tryz.prog 21 #[.pointer (some ⟨sb,0,none⟩)] j fun e w'=>e=.returned (.int .i64 (len:Int))∧j=w')
  (aw:∀j,ae w j→Calls Tryz.prog 48 #[.pointer (some ⟨sb,0,none⟩)] j fun e w'=>e=.returned (.int .i64 n)∧j=w')
  (am:∀j,ae w j→Calls Tryz.prog 89 #[.pointer (some ⟨sb,0,none⟩)] j fun e w'=>e=.returned (.int .i64 room)∧j=w')
  (av:∀i,i<len→∃lb,a=some ⟨lb,0,none⟩∧∀s,s<8→w.cell? ⟨lb,i*8+s,none⟩=(fo (ids i,rs i))[s]?)
  (ab:∀i,i<len→∀j,ae w j→Calls Tryz.prog 78 #[.pointer (some ⟨sb,0,none⟩),.int .u32 (ids i)] j fun e w'=>e=.returned (.tuple #[.agg #[.int .u8 (rs i).al,.int .u8 (rs i).I,.int .u8 (rs i).J,.int .u8 (rs i).lo.tag,.int .u32 (rs i).lo.to,.int .u8 (rs i).hi.tag,.int .u32 (rs i).hi.to],.bool true])∧ae j w')
  (ad:∀i,i<len→∀j,ae w j→Calls Tryz.prog 90 #[.pointer (some ⟨sb,0,none⟩),.agg #[.int .u8 (rs i).al,.int .u8 (rs i).I,.int .u8 (rs i).J,.int .u8 (rs i).lo.tag,.int .u32 (rs i).lo.to,.int .u8 (rs i).hi.tag,.int .u32 (rs i).hi.to]] j fun e w'=>e=.returned (.tuple #[.int .u32 (ids i),.bool true])∧ae j w') :
  Calls Tryz.prog 39 #[.pointer (some ⟨sb,0,none⟩),.pointer (some ⟨mb,0,none⟩)] w fun e w'=>e=.returned (.bool true)∧ae w w':=by
 have bg:=aa al
 have bp:=aa aw
 have bi:=aa am
 have bn:=aa av
 have bb:=aa ab
 have be:=aa ad
 clear al aw am av ab ad
 go_enter Tryz.func39,Tryz.ntmps39
 go_wp2_with fail
 have ab:=an.cell X
 have ab:=an.cell bq
 have ab:=an.cell br
 refine cU (w) (by kernel_rfl) (by kernel_rfl) kp ?_;(repeat (go_big_quiet_step ((first|(go_at_call 21;with_reducible refine Calls.c' (bg.out _ (an.a4 _)))|(go_at_call 48;with_reducible refine Calls.c' (bp.out _ (an.a4 _)))|(go_at_call 89;with_reducible refine Calls.c' (bi.out _ (an.a4 _)))))));refine wpQuiet_nil ?_;rintro ab ⟨⟨_,bt⟩,rfl⟩;try dsimp only
 go_wp2_with fail
 go_loopg [5] len (fun gk i wr=>∃d:Nat,d+gk=len∧i=.int .i64 (d:Int)∧ae w wr)
 case atStart=>exact⟨0,by omega,rfl,bt⟩
 case round=>
  obtain⟨d,bv,rfl,t⟩:=hrel;have I:=t.cell X;have X:mb<wr.heap.size:=aB I;by_cases E:d<len
  ·obtain⟨lb,rfl,Z⟩:=bn.out d E;have q:=fun s X=>t.cell ((Z s X).trans (ar (by rw[oY];exact X)));have z:=q 0 (by omega);have J:=q 1 (by omega);have L:=q 2 (by omega);have N:=q 3 (by omega);have O:=q 4 (by omega);have S:=q 5 (by omega);have T:=q 6 (by omega);have U:=q 7 (by omega);simp[fo,df]at z J L N O S T U;have s:lb<wr.heap.size:=aB z;clear q Z;have bd:=aa (bb.out d E);have bf:=aa (be.out d E);have q:∀j,(binOp .neq 134 (.agg #[.int .u8 (rs d).al,.int .u8 (rs d).I,.int .u8 (rs d).J,.int .u8 (rs d).lo.tag,.int .u32 (rs d).lo.to,.int .u8 (rs d).hi.tag,.int .u32 (rs d).hi.to]) (.agg #[.int .u8 (rs d).al,.int .u8 (rs d).I,.int .u8 (rs d).J,.int .u8 (rs d).lo.tag,.int .u32 (rs d).lo.to,.int .u8 (rs d).hi.tag,.int .u32 (rs d).hi.to])).run Tryz.prog j=.ok (.bool false) j:=fun j=>(by rw[Ca];simp);go_wp2_with (go_at_call 78;refine(bd.out _ t).mono ?_;rintro e A ⟨rfl,j⟩;have bs:=t.trans j;have a0:=j.cell I;have a1:=j.cell z;have a3:=j.cell J;have a4:=j.cell L;have a5:=j.cell N;have a6:=j.cell O;have a7:=j.cell S;have a8:=j.cell T;have a':=j.cell U;have q:=j.size;have j:mb<A.heap.size:=(by omega);have j:lb<A.heap.size:=(by omega))
   refine(bf.out _ kp).mono ?_;rintro e W ⟨rfl,Y⟩;have B:ae (A.alloc (.cells #[.int .u8 (rs d).al,.int .u8 (rs d).I,.int .u8 (rs d).J,.int .u8 (rs d).lo.tag,.int .u32 (rs d).lo.to,.int .u8 (rs d).hi.tag,.int .u32 (rs d).hi.to] 134)) W:=Y;obtain⟨j,q,s,t,E,X,Z⟩:=dL B;have j:ae A W:=((ae.refl _).alloc _).trans B;have q:ae w W:=bs.trans j;have q:=j.cell a0;have q:=j.cell a1;have q:=j.cell a3;have q:=j.cell a4;have q:=j.cell a5;have q:=j.cell a6;have q:=j.cell a7;have q:=j.cell a8;have q:=j.cell a';clear I z J L N O S T U a0 a1 a3 a4 a5 a6 a7 a8 a' Y B;go_wp2_with fail;go_quiet (fail);go_wp2;go_roundg (gk-1)
   case rel=>exact⟨d+1,by omega,by simp,kp⟩
   case measure=>omega
  ·have j:¬(d:Int)<(len:Int):=(by omega);go_wp2;go_ret;exact⟨rfl,kp⟩
theorem aV.room {F:Nat→Prop}{w:World}{mb:Nat}{M:St}{j:List (Int×Rec)}(h:aV F w mb M j):w.cell? ⟨mb,4,none⟩=some (.int .i64 M.room):=by
 obtain⟨⟨lv,q,j,-⟩,-⟩:=h;rw[cell_of_row w mb 4 _ _ _ j];rfl
theorem Cd {w0 w:World}{sb mb:Nat}{M:St}{j:List (Int×Rec)}(h:gW w0 w sb mb M j) :
  Calls Tryz.prog 39 #[.pointer (some ⟨sb,0,none⟩),.pointer (some ⟨mb,0,none⟩)] w fun e w'=>e=.returned (.bool true)∧ae w w':=by
 obtain⟨⟨F,G,hS,s,-⟩,-⟩:=h
 obtain⟨a,cap,B,J⟩:=s.cell
 have E:w.cell? ⟨mb,3,none⟩=some (.int .i64 M.n):=by
  obtain⟨⟨lv,O,I,-⟩,-⟩:=s;rw[cell_of_row w mb 3 _ _ _ I];rfl
 have A:∀i,i<j.length→look M.cs (j[i]?.getD (0,Rec.zero)).1=some (j[i]?.getD (0,Rec.zero)).2:=fun i hi=>by
  rw[ar hi];exact(s.mem _ _).1 (List.getElem_mem hi)
 refine Ce sb mb M.n M.room a j.length cap (fun i=>(j[i]?.getD (0,Rec.zero)).1) (fun i=>(j[i]?.getD (0,Rec.zero)).2) w s.le B E s.room ?_ (fun t q=>dw (hS.ad q)) (fun t q=>Dc (hS.ad q)) ?_ ?_ ?_
 ·intro t q;rw[s.len];exact pH (hS.ad q)
 ·intro i hi;obtain⟨lb,rfl,_,N⟩:=J (by omega);refine⟨lb,rfl,fun E B=>?_⟩;rw[N i _ (ar hi) E B,ar hi];rfl
 ·intro i hi t q;have z:=A i hi;have hid:=(ck z).2.1;have B:=s.bx;have:=gI (hS.ad q) (j[i]?.getD (0,Rec.zero)).1 (by omega);rw[z]at this;exact this
 ·intro i hi t q;have z:=A i hi;have L:=s.b0 _ (List.getElem_mem hi);have e:j[i]?.getD (0,Rec.zero)=j[i]:=by rw[ar hi];rfl
  have:=Db (hS.ad q) (j[i]?.getD (0,Rec.zero)).2 (by rw[e];exact L);rw[(jf hS.b3 _ _).1 z]at this;exact this
theorem pV {x:Int}(h:x<62):wrap64 (2 ^ x.toNat)=2 ^ x.toNat:=by
 have j:2 ^ x.toNat≤2 ^ 61:=aW (by decide) (by omega);have j:(2:Int) ^ x.toNat=((2 ^ x.toNat:Nat):Int):=by push_cast;rfl
 have j:(0:Int)<2 ^ x.toNat:=Int.pow_pos (by decide);unfold wrap64;omega
def aF (ps:List Int):Bool:=decide (ps.length≤16)&&ps.all (fun x=>decide (0≤x∧x<(ps.length:Int)))&&decide ps.Nodup
theorem dD {ps:List Int}:aF ps=true↔(ps.length≤16∧(∀x∈ps,0≤x∧x<(ps.length:Int))∧ps.Nodup):=by
 unfold aF;simp[List.all_eq_true,and_assoc]
theorem gT {j:Type}{l:List j}{i:Nat}{x:j}(h:l[i]?=some x):l.take (i+1)=l.take i++[x]:=by
 obtain⟨hi,rfl⟩:=List.getElem?_eq_some_iff.1 h;rw[List.take_succ_eq_append_getElem hi]
theorem pd (a:Option Addr)(cap:Nat)(ps:List Int)(w:World)(h:bH w a ps)(av:ps.length≤1048576) :
  Calls Tryz.prog 142 #[.slice a ps.length cap] w fun e w'=>e=.returned (.bool (aF ps))∧w=w':=by
 obtain⟨q,S⟩:∃q,q=ps.length:=⟨_,rfl⟩
 rw[←S]at av ⊢
 have H:=aa h
 have t:=aa S
 clear h S
 by_cases S:16<q
 ·have j:aF ps=false:=by
   cases I:aF ps with
   |false=>rfl
   |true=>have:=(dD.1 I).1;have:=t.out;omega
  rw[j];clear j;go_enter Tryz.func142,Tryz.ntmps142;go_wp2;go_ret;exact⟨rfl,rfl⟩
 ·go_enter Tryz.func142,Tryz.ntmps142;go_wp2;go_loopg [3,5,11] q (fun gk av S S wr=>∃(m d:Nat),av=.int .i64 (m:Int)∧S=.int .i64 (d:Int)∧d+gk=q∧ix m (ps.take d)∧(∀x∈ps.take d,0≤x∧x<(q:Int))∧(ps.take d).Nodup∧w=wr)
  case atStart=>exact⟨0,0,rfl,rfl,by omega,by simpa using ix.nil,by simp,by simp,rfl⟩
  case round=>
   obtain⟨m,d,rfl,rfl,a1,z,B,A,rfl⟩:=hrel;by_cases T:d<q
   ·obtain⟨x,N⟩:∃b,ps[d]?=some b:=⟨_,ar (by rw[←t.out];exact T)⟩;obtain⟨b,off,rfl,S⟩:=H.out d x N;have L:x∈ps:=bB N;have W:=aa N;clear N;by_cases S:x<0
    ·have j:aF ps=false:=by
      cases I:aF ps with
      |false=>rfl
      |true=>have:=((dD.1 I).2.1 x L).1;omega
     have E:=aa j;clear j L z B A;go_wp2_with fail;go_ret;exact⟨by rw[E.out];rfl,rfl⟩
    ·by_cases S:(q:Int)≤x
     ·have j:aF ps=false:=by
       cases I:aF ps with
       |false=>rfl
       |true=>have:=((dD.1 I).2.1 x L).2;have:=t.out;omega
      have E:=aa j;clear j L z B A;go_wp2_with fail;go_ret;exact⟨by rw[E.out];rfl,rfl⟩
     ·have X:=z.hs (x:=x) (by omega);by_cases J:x∈ps.take d
      ·have j:aF ps=false:=by
        cases I:aF ps with
        |false=>rfl
        |true=>
         have:=(dD.1 I).2.2;rw[←List.take_append_drop d ps,List.nodup_append]at this;refine absurd rfl (this.2.2 x J x ?_);rw[List.drop_eq_getElem_cons (by rw[←t.out];exact T)];have:=W.out;rw[ar (by rw[←t.out];exact T)]at this;rw[Option.some.inj this];simp
       have E:=aa j;rw[bc J]at X;clear j L z B A J;have a0:x≤63:=(by omega);go_wp2_with fail;go_ret;exact⟨by rw[E.out];rfl,rfl⟩
      ·rw[aY J]at X;have U:=z.add (x:=x) (by omega) (by omega);have aw:=o7 m (2 ^ x.toNat) (by have:=z.1;omega) (bI (Nat.pow_lt_pow_right (n:=16) (by decide) (by omega)) (by decide));have O:=gT W.out;rw[←O]at U
       have Z:∀y∈ps.take (d+1),0≤y∧y<(q:Int):=fun y s=>by
        rw[O]at s;rcases List.mem_append.1 s with s|s;·exact B y s
        ·rw[cF]at s;subst s;omega
       have Y:(ps.take (d+1)).Nodup:=by
        rw[O,List.nodup_append];exact⟨A,by simp,fun y s j ab e=>by rw[cF]at ab;subst e;subst ab;exact J s⟩
       have ad:=aa U;have am:=aa Z;have al:=aa Y;push_cast at aw;have j:=pV (x:=x) (by omega);clear z B A U Z Y L J O;have a0:x≤63:=(by omega);go_wp2_with fail;go_roundg (gk-1)
       case rel=>exact⟨m ||| 2 ^ x.toNat,d+1,rfl,by simp,by omega,ad.out,am.out,al.out,rfl⟩
       case measure=>omega
   ·have j:d=q:=by omega
    have j:aF ps=true:=by
     have q:ps.take d=ps:=ic (by rw[←t.out];omega);rw[q]at B A;exact dD.2 ⟨by have:=t.out;omega,fun x N=>by have:=B x N;have:=t.out;omega,A⟩
    have E:=aa j;clear z B A j;go_wp2_with fail;go_ret;exact⟨by rw[E.out];rfl,rfl⟩
def bS (w:World)(g:Nat)(ps:List Int):Prop:=∃j:Array Value,w.heap[g]?=some (.cells j 3 (0,0))∧∀(i:Nat) (x:Int),ps[i]?=some x→j[i]?=some (Value.int .i64 x)
theorem bS.cell {w:World}{g:Nat}{ps:List Int}(h:bS w g ps){i:Nat}{x:Int}(s:ps[i]?=some x):w.cell? ⟨g,i,none⟩=some (.int .i64 x):=by
 obtain⟨t,j,q⟩:=h;rw[cell_of_row w g i _ _ _ j];simp only[q i x s]
theorem bS.frozen {w:World}{g:Nat}{ps:List Int}(h:bS w g ps)(i:Nat):w.frozen? ⟨g,i,none⟩=false:=by
 obtain⟨q,j,s⟩:=h;exact frozen_of_row w g i _ _ j
theorem bS.lt {w:World}{g:Nat}{ps:List Int}(h:bS w g ps):g<w.heap.size:=by
 obtain⟨q,j,s⟩:=h;exact aM j
theorem bS.a4 {G:Nat→Prop}{w w':World}{g:Nat}{ps:List Int}(h:bS w g ps)(A:af G w w')(t:¬G g):bS w' g ps:=by
 have z:=h.lt;obtain⟨j,q,s⟩:=h;exact⟨j,(A.block g z t).trans q,s⟩
theorem bS.ad {w w':World}{g:Nat}{ps:List Int}(h:bS w g ps)(j:ae w w'):bS w' g ps:=h.a4 (j.av (fun _=>False)) (fun h=>h)
theorem bS.e0 {w:World}{g:Nat}{ps:List Int}(h:bS w g ps):bH w (some ⟨g,0,none⟩) ps:=fun i x j=>⟨g,0,rfl,by rw[dK];exact h.cell j⟩
theorem bS.set {w:World}{g:Nat}{ps:List Int}(h:bS w g ps)(i:Nat)(y:Int)(hi:i<ps.length):bS (w.setCell ⟨g,i,none⟩ (.int .i64 y)) g (ps.set i y):=by
 obtain⟨z,A,s⟩:=h;refine⟨_,Go.heap_setCell_same w g i _ _ (.int .i64 y) A,fun t x j=>?_⟩;rw[dA];by_cases q:i=t
 ·subst q;have B:=s i ps[i] (by simp[hi]);have E:i<z.size:=(Array.getElem?_eq_some_iff.1 B).1;rw[ah rfl,ah E];simp[hi]at j;rw[j]
 ·rw[ag q];rw[fK q]at j;exact s t x j
theorem s' {w:World}{lo:Nat}{g:Nat}{n cap:Nat}{ps:List Int}(q:w.ownsRow lo 3 1 (.slice (some ⟨g,0,none⟩) n cap) n (ps.map (Value.int .i64))):bS w g ps∧lo≤g:=by
 obtain⟨I,J⟩:=bF q (k:=g) rfl;rcases q.2 with⟨t,_⟩|⟨I,q,s,E,z,A,_,_,J,B⟩
 ·cases t
 ·cases E;refine⟨⟨s,A,fun i x q=>?_⟩,z⟩;have j:(ps.map (Value.int .i64))[i]?=some (.int .i64 x):=by rw[dh,q];rfl
  rw[←B,ju]at j;split at j
  ·rw[Array.getElem?_toList]at j;exact j
  ·cases j
def kS (lo:Nat)(w:World)(a:Option Addr)(ps:List Int):Prop:=ps≠[]→∃g,a=some ⟨g,0,none⟩∧lo≤g∧bS w g ps
theorem kS.e0 {lo:Nat}{w:World}{a:Option Addr}{ps:List Int}(h:kS lo w a ps):bH w a ps:=fun i x j=>by
 obtain⟨g,q,_,s⟩:=h (fun e=>by rw[e]at j;simp at j);rw[q];exact s.e0 i x j
theorem jB:(Tryz.prog.info? 3).map (fun i=>(i.zero,i.size,i.bytes))=some (some (.int .i64 0),1,8):=by kernel_rfl
theorem Ar (w:World)(j:TypeId):(w.alloc (.cells #[] j)).ownsRow w.heap.size j 1 (.slice (some ⟨w.heap.size,0,none⟩) 0 0) 0 []:=
 ⟨rfl,.inr ⟨w.heap.size,0,#[],rfl,aE _,heap_alloc_new w _,aE _,by unfold maxLen;omega,rfl,rfl⟩⟩
theorem n7 (a:Option Addr)(cap:Nat)(ps:List Int)(w:World)(h:bH w a ps)(W:ps.length≤1048576) :
  Calls Tryz.prog 54 #[.slice a ps.length cap] w fun e w'=>∃z J,e=.returned (.slice z ps.length J)∧kS w.heap.size w' z ps∧ae w w':=by
 cases a with
 |none=>
  have am:ps=[]:=by
   cases ps with
   |nil=>rfl
   |cons x l=>obtain⟨b,off,N,_⟩:=h 0 x rfl;cases N
  subst am;clear h W;rw[List.length_nil];have al:=fun(E:World)=>Lib.run_eql_slice_nil (P:=Tryz.prog) E 22 3 none 0 cap 0 0 Tryz.underlying22;go_enter Tryz.func54,Tryz.ntmps54;go_wp2;go_ret;exact⟨none,0,rfl,fun t=>absurd rfl t,ae.refl _⟩
 |some I=>
  obtain⟨a3,hi,aw,a0,a1⟩:=info_parts jB
  have T:∀j u,(ps.map (Value.int .i64))[j]?=some u→w.cell? (I.add j)=some u:=fun j u A=>by
   rw[dh,Option.map_eq_some_iff]at A;obtain⟨x,av,rfl⟩:=A;obtain⟨b,off,N,ad⟩:=h j x av;cases N
   have ab:(⟨b,off,none⟩:Addr).add j=⟨b,off+j,none⟩:=by
    unfold Addr.add;split
    ·rename_i N;rw[N];rfl
    ·rfl
   rw[ab];exact ad
  obtain⟨q,L⟩:∃q,q=ps.length:=⟨_,rfl⟩;rw[←L]at W ⊢;have X:=aa T;have S:=aa L;have Y:0+q≤maxLen:=by unfold maxLen;omega
  clear h T L;have al:=fun(E:World)=>Lib.run_eql_slice_nil (P:=Tryz.prog) E 22 3 (some I) q cap 0 0 Tryz.underlying22;go_enter Tryz.func54,Tryz.ntmps54
  go_wp2_with (first
   |(at_builtin;refine uw rfl _ _ 22 rfl w.heap.size 3 a3 (.int .i64 0) 1 8 Tryz.underlying22 hi aw a0 a1 rfl (by decide) (.slice (some ⟨w.heap.size,0,none⟩) 0 0) 0 [] rfl (Ar w 3) I q cap (ps.map (Value.int .i64)) rfl (by rw[fy,←S.out,Nat.mul_one]) (fun j u A=>((ae.refl w).alloc _).cell (X.out j u A)) (fun u B=>by rw[List.mem_map]at B;obtain⟨x,_,rfl⟩:=B;rfl) Y (by omega) (by simp) ?_;intro L a6 O s E)
   |fail)
  obtain⟨z,J,rfl,Z⟩:=dv O;go_wp2_with fail;go_ret;refine⟨z,J,by simp,fun t=>?_,?_⟩
  ·obtain⟨g,rfl⟩:=Z (by rw[dK,S.out];intro e;exact t (List.length_eq_zero_iff.1 e));rw[List.nil_append]at O;obtain⟨a4,a5⟩:=s' O;exact⟨g,rfl,a5,a4⟩
  ·have B:af (fun k=>k=w.heap.size) (w.alloc (.cells #[] 3)) a6:=⟨s.os,s.tape,s.output,s.size,fun k U t=>s.block k U (fun e=>by simp[Value.ownBlock]at e;exact t e)⟩;exact((((ae.refl w).alloc (.cells #[] 3)).av _).bg B).ad (fun k U e=>by omega)
def kP (ps qs:List Int):Prop:=qs.length=ps.length∧∀(i:Nat) (x:Int),ps[i]?=some x→qs[x.toNat]?=some (i:Int)
theorem sZ {w:World}{j n:Nat}(h:w.ownsRow j 3 1 (.slice (some ⟨j,0,none⟩) n n) n (madeCells (Value.int .i64 0).cells (n*1)).toList):bS w j (List.replicate n 0):=by
 have e:(madeCells (Value.int .i64 0).cells (n*1)).toList=(List.replicate n (0:Int)).map (Value.int .i64):=by
  rw[List.map_replicate,Nat.mul_one];simp[madeCells,Value.cells,Nat.mod_one];rw[List.map_const',List.length_range]
 rw[e]at h;exact(s' h).1
theorem yI (a:Option Addr)(cap:Nat)(ps:List Int)(w:World)(h:bH w a ps)(S:ps.length≤1048576) :
  Calls Tryz.prog 82 #[.slice a ps.length cap] w fun e w'=>ae w w' ∧
   if aF ps=true then ∃qs,e=.returned (.tuple #[.slice (some ⟨w.heap.size,0,none⟩) ps.length ps.length,.bool true])∧bS w' w.heap.size qs∧kP ps qs
   else e=.returned (.tuple #[.slice none 0 0,.bool false]):=by
 have z:=fun Z (a5:ae w Z)=>pd a cap ps Z (h.ad a5) S
 obtain⟨j,s⟩:∃j,j=ps.length:=⟨_,rfl⟩
 cases I:aF ps with
 |false=>
  simp only[Bool.false_eq_true,if_false];rw[I,←s]at z;rw[←s];have O:=aa z;clear z h S I s;go_enter Tryz.func82,Tryz.ntmps82;go_wp2_with (first|(go_at_call 142;refine(O.out _ kp).mono ?_;rintro e w1 ⟨rfl,rfl⟩)|fail)
  go_ret2;exact⟨ae.refl _,rfl⟩
 |true=>
  simp only[if_true];obtain⟨Z,T,al⟩:=dD.1 I;rw[I,←s]at z;rw[←s]at S Z T ⊢;have O:=aa z;have N:=aa s;have H:=aa h;have X:=aa T;have a1:=aa al;obtain⟨a',a6,bb,bd,be⟩:=info_parts jB;clear z h I s T al;go_enter Tryz.func82,Tryz.ntmps82
  go_wp2_with (first
   |(go_at_call 142;refine(O.out _ kp).mono ?_;rintro e w1 ⟨rfl,rfl⟩)
   |(at_make;refine wpList_make_full _ rfl _ _ 22 rfl w.heap.size 3 a' (.int .i64 0) 1 Tryz.underlying22 a6 bb bd .i64 .i64 (j:Int) (j:Int) j rfl rfl rfl rfl (by rw[be];omega) (by unfold maxLen;omega) (by simp) ?_;intro w1 am A)
   |fail)
  have W:=aa (sZ am);have ad:ae w w1:=⟨A.os,A.tape,A.output,A.size,fun i hi=>A.block i hi (by simp)⟩;have a0:=aa ad;have bf:=W.out.lt;clear am A ad;go_loopg [5,6,15] j (fun gk s s s wr=>∃(d:Nat) (qs:List Int),d+gk=j∧s=.int .i64 (d:Int)∧qs.length=j∧bS wr w.heap.size qs∧(∀i x,i<d→ps[i]?=some x→qs[x.toNat]?=some (i:Int))∧af (fun s=>s=w.heap.size) w1 wr)
  case atStart=>exact⟨0,_,by omega,rfl,by simp,W.out,fun i x hi=>by omega,af.refl _ _⟩
  case round=>
   obtain⟨d,qs,bg,rfl,I,z,A,s⟩:=hrel;have J:=aa z;have E:=aa I;have U:=aa A;have aw:=aa s;have av:ae w wr:=a0.out.new s (fun k O=>by omega);clear z I A s;by_cases a7:d<j
   ·obtain⟨x,t⟩:∃b,ps[d]?=some b:=⟨_,ar (by rw[←N.out];exact a7)⟩;obtain⟨b,off,rfl,ab⟩:=H.out d x t;have s:=av.cell ab;obtain⟨s,z⟩:=X.out x (bB t);have Y:=aa t;obtain⟨q,rfl⟩:∃q:Nat,x=(q:Int):=⟨x.toNat,by omega⟩;obtain⟨y,s⟩:∃b,qs[q]?=some b:=⟨_,ar (by rw[E.out];omega)⟩;have z:=J.out.cell s;have z:=J.out.frozen q;clear ab t s;go_wp2_with fail;go_roundg (gk-1)
    case rel=>
     refine⟨d+1,qs.set q (d:Int),by omega,by simp,by rw[bZ,E.out],?_,fun i L hi B=>?_,?_⟩;·exact J.out.set q (d:Int) (by rw[E.out];omega)
     ·by_cases hid:i=d
      ·subst hid;rw[Y.out]at B;cases B;rw[cN,gy (by rw[E.out];omega)]
      ·have a8:L.toNat≠q:=fun e=>by
        have s:=(X.out L (bB B)).1;have s:L=(q:Int):=(by omega);rw[s]at B;obtain⟨bf,a4⟩:=List.getElem?_eq_some_iff.1 B;obtain⟨s,q⟩:=List.getElem?_eq_some_iff.1 Y.out;exact hid (List.getElem_inj a1.out |>.1 (a4.trans q.symm))
       rw[fK (fun e=>a8 e.symm)];exact U.out i L (by omega) B
     ·exact aw.out.setCell (.inl rfl) _
    case measure=>omega
   ·have q:d=j:=(by omega);have j:kP ps qs:=⟨by rw[E.out,N.out],fun i x t=>U.out i x (by have:=(List.getElem?_eq_some_iff.1 t).1;have:=N.out;omega) t⟩;have a3:=aa j;clear q j;go_wp2_with fail;go_ret2;exact⟨av,qs,rfl,J.out,a3.out⟩
structure ba (F:Nat→Prop)(w:World)(ob:Nat)(ps:List Int):Prop where
 h8:∃va vc lg lc qs,w.heap[ob]?=some (.cells #[.slice va ps.length vc,.slice (some ⟨lg,0,none⟩) ps.length lc] 117 (0,0))∧kP ps qs ∧
  (ps≠[]→∃vg,va=some ⟨vg,0,none⟩∧bS w vg ps∧F vg∧vg≠lg)∧bS w lg qs∧F lg
 own:F ob
 lt:∀k,F k→k<w.heap.size
 perm:aF ps=true
theorem ba.a4 {F G:Nat→Prop}{w t:World}{s:Nat}{ps:List Int}(h:ba F w s ps)(j:af G w t)(q:∀k,F k→¬G k):ba F t s ps:=by
 obtain⟨⟨S,T,O,N,qs,z,E,I,J,A⟩,t,a2,B⟩:=h;refine⟨⟨S,T,O,N,qs,(j.block s (aM z) (q _ t)).trans z,E,fun L=>?_,J.a4 j (q _ A),A⟩,t,fun k s=>bI (a2 k s) j.size,B⟩;obtain⟨B,t,z,s,A⟩:=I L;exact⟨B,t,z.a4 j (q _ s),s,A⟩
theorem ba.ad {F:Nat→Prop}{w j:World}{q:Nat}{ps:List Int}(h:ba F w q ps)(s:ae w j):ba F j q ps:=h.a4 (s.av (fun _=>False)) (fun _ _ h=>h)
theorem pc (a:Option Addr)(cap:Nat)(ps:List Int)(w:World)(h:bH w a ps)(I:ps.length≤1048576) :
  Calls Tryz.prog 35 #[.slice a ps.length cap] w fun e w'=>ae w w' ∧
   if aF ps=true then ∃t F,e=.returned (.tuple #[.pointer (some ⟨t,0,none⟩),.int .u8 0])∧ba F w' t ps∧(∀k,F k→w.heap.size≤k)
   else e=.returned (.tuple #[.pointer none,.int .u8 1]):=by
 have s:=fun t (L:ae w t)=>yI a cap ps t (h.ad L) I
 have B:=fun t (L:ae w t)=>n7 a cap ps t (h.ad L) I
 obtain⟨q,j⟩:∃q,q=ps.length:=⟨_,rfl⟩
 cases z:aF ps with
 |false=>
  simp only[Bool.false_eq_true,if_false];simp only[z,Bool.false_eq_true,if_false,←j]at s;rw[←j];have J:=aa s;clear s h I z j B;go_enter Tryz.func35,Tryz.ntmps35;go_wp2_with (first|(go_at_call 82;refine(J.out _ kp).mono ?_;rintro e w1 ⟨E,rfl⟩)|fail)
  go_ret2;exact⟨E,rfl⟩
 |true=>
  simp only[if_true];simp only[z,if_true,←j]at s;rw[←j]at B ⊢;have J:=aa s;have Y:=aa B;have X:=aa z;have Z:=aa j;clear s h I z j B;go_enter Tryz.func35,Tryz.ntmps35;go_wp2_with (first|(go_at_call 82;refine(J.out _ kp).mono ?_;rintro e w1 ⟨S,qs,rfl,T,ad⟩)|fail)
  have j:=T.lt;refine(Y.out _ S).mono ?_;rintro e A ⟨U,W,rfl,al,N⟩;go_wp2_with fail;go_ret2;have O:ae A (A.alloc (.cells #[.slice U q W,.slice (some ⟨w.heap.size,0,none⟩) q q] 117)):=(ae.refl _).alloc _;have j:=N.size;refine⟨(S.trans N).trans O,A.heap.size,fun k=>w.heap.size≤k∧k≤A.heap.size,rfl,⟨⟨U,W,w.heap.size,q,qs,?_,ad,fun ab=>?_,(T.ad N).ad O,by omega⟩,by omega,fun k E=>by simp;omega,X.out⟩,fun k E=>E.1⟩
  ·rw[←Z.out];exact heap_alloc_new A _
  ·obtain⟨s,q,t,j⟩:=al ab;have:=j.lt;exact⟨s,q,j.ad O,by omega,by omega⟩
theorem bS.ne {w:World}{g q:Nat}{ps:List Int}{cs:Array Value}{t:Nat×Nat}(h:bS w g ps)(j:w.heap[q]?=some (.cells cs 117 t)):g≠q:=by
 obtain⟨q,s,_⟩:=h;intro e;subst e;rw[s]at j;have:=Option.some.inj j;injection this with _ j _;exact absurd j (by decide)
theorem ba.cells {F:Nat→Prop}{w:World}{j:Nat}{ps:List Int}(h:ba F w j ps):∃q A z t,w.cell? ⟨j,0,none⟩=some (.slice q ps.length A)∧w.cell? ⟨j,1,none⟩=some (.slice (some ⟨z,0,none⟩) ps.length t)∧bH w q ps:=by
 obtain⟨⟨q,A,z,t,qs,B,L,E,N,O⟩,_⟩:=h;refine⟨q,A,z,t,by rw[cell_of_row w j 0 _ _ _ B];rfl,by rw[cell_of_row w j 1 _ _ _ B];rfl,fun i x s=>?_⟩;obtain⟨j,I,J,_⟩:=E (fun e=>by rw[e]at s;simp at s);rw[I];exact J.e0 i x s
theorem ba.le {F:Nat→Prop}{w:World}{j:Nat}{ps:List Int}(h:ba F w j ps):ps.length≤16:=(dD.1 h.perm).1
theorem lC {F:Nat→Prop}{w:World}{s:Nat}{ps:List Int}(h:ba F w s ps) :
  Calls Tryz.prog 99 #[.pointer (some ⟨s,0,none⟩)] w fun e w'=>e=.returned (.int .i64 (ps.length:Int))∧w=w':=by
 obtain⟨B,E,A,s,t,j,_⟩:=h.cells
 have z:=h.le
 obtain⟨n,q⟩:∃n,n=ps.length:=⟨_,rfl⟩
 rw[←q]at t j z ⊢
 clear h j q
 go_enter Tryz.func99,Tryz.ntmps99
 go_wp2
 go_ret
 exact⟨rfl,rfl⟩
theorem o8 {F:Nat→Prop}{w:World}{q:Nat}{ps:List Int}(h:ba F w q ps) :
  Calls Tryz.prog 14 #[.pointer (some ⟨q,0,none⟩)] w fun e w'=>∃a cap,e=.returned (.slice a ps.length cap)∧kS w.heap.size w' a ps∧ae w w':=by
 obtain⟨L,N,B,q,A,s,hi⟩:=h.cells
 have I:=h.le
 have j:=fun q (B:ae w q)=>n7 L N ps q (hi.ad B) (by omega)
 obtain⟨n,t⟩:∃n,n=ps.length:=⟨_,rfl⟩
 rw[←t]at A s j ⊢
 have z:=aa j
 clear h s hi j I t
 go_enter Tryz.func14,Tryz.ntmps14
 go_wp2_with (first|(go_at_call 54;refine(z.out _ kp).mono ?_;rintro e w1 ⟨a,cap,rfl,J,E⟩)|fail)
 go_ret
 exact⟨a,cap,rfl,J,E⟩
def aK (ps:List Int)(i:Nat):List Int:=(ps.set i (ps.getD (i+1) 0)).set (i+1) (ps.getD i 0)
theorem eK (ps:List Int)(i:Nat):(aK ps i).length=ps.length:=by unfold aK;simp
theorem iK {ps:List Int}{i:Nat}(h:i+1<ps.length)(j:Nat):(aK ps i)[j]?=if j=i then ps[i+1]? else if j=i+1 then ps[i]? else ps[j]?:=by
 unfold aK;rw[List.getElem?_set,List.getElem?_set];have t:ps[i+1]?=some (ps.getD (i+1) 0):=by simp[List.getD,h]
 have z:ps[i]?=some (ps.getD i 0):=by simp[List.getD,show i<ps.length by omega]
 by_cases q:j=i
 ·subst q;rw[ag (by omega),ah rfl,ah (by omega),ah rfl,t]
 ·by_cases s:j=i+1
  ·subst s;rw[ah rfl,ah (by simpa using h),ag q,ah rfl,z]
  ·rw[ag (by omega),ag (by omega),ag q,ag s]
theorem C' {ps:List Int}{i:Nat}(h:i+1<ps.length)(x:Int):x∈aK ps i↔x∈ps:=by
 rw[List.mem_iff_getElem?,List.mem_iff_getElem?];constructor
 ·rintro⟨q,j⟩;rw[iK h]at j;split at j;·exact⟨_,j⟩
  ·split at j;·exact⟨_,j⟩
   ·exact⟨_,j⟩
 ·rintro⟨q,j⟩;by_cases s:q=i
  ·refine⟨i+1,?_⟩;rw[iK h,ag (by omega),ah rfl,←s];exact j
  ·by_cases t:q=i+1
   ·refine⟨i,?_⟩;rw[iK h,ah rfl,←t];exact j
   ·refine⟨q,?_⟩;rw[iK h,ag s,ag t];exact j
theorem ks {ps:List Int}(h:ps.Nodup){i j:Nat}{x:Int}(hi:ps[i]?=some x)(s:ps[j]?=some x):i=j:=by
 obtain⟨j,q⟩:=List.getElem?_eq_some_iff.1 hi;obtain⟨t,j⟩:=List.getElem?_eq_some_iff.1 s;exact(List.getElem_inj h).1 (q.trans j.symm)
theorem jK {ps:List Int}{i:Nat}(h:i+1<ps.length)(s:aF ps=true):aF (aK ps i)=true:=by
 obtain⟨t,z,A⟩:=dD.1 s;refine dD.2 ⟨by rw[eK];exact t,fun x B=>by rw[eK];exact z x ((C' h x).1 B),?_⟩;refine List.pairwise_iff_getElem.2 fun a b t z B e=>?_;have q:(aK ps i)[a]?=some (aK ps i)[a]:=ar t;have j:(aK ps i)[b]?=some (aK ps i)[a]:=by rw[e];exact ar z
 rw[iK h]at q j;have key:∀{p t:Nat},ps[p]?=some (aK ps i)[a]→ps[t]?=some (aK ps i)[a]→p=t:=fun s t=>ks A s t;split at q
 ·split at j;·omega
  ·split at j;·have:=key q j;omega
   ·have:=key q j;omega
 ·split at q
  ·split at j;·have:=key q j;omega
   ·split at j;·omega
    ·have:=key q j;omega
  ·split at j;·have:=key q j;omega
   ·split at j;·have:=key q j;omega
    ·have:=key q j;omega
theorem C9 {ps qs:List Int}{i:Nat}{a b:Int}(h:i+1<ps.length)(I:aF ps=true)(J:kP ps qs)(q:ps[i]?=some a)(s:ps[i+1]?=some b) :
  kP (aK ps i) ((qs.set a.toNat ((i:Int)+1)).set b.toNat (i:Int)):=by
 obtain⟨O,t,z⟩:=dD.1 I
 obtain⟨E,N⟩:=J
 have I:=t a (bB q)
 have I:=t b (bB s)
 have I:a≠b:=fun e=>by subst e;have:=ks z q s;omega
 refine⟨by rw[bZ,bZ,eK,E],fun L x j=>?_⟩
 rw[iK h]at j
 rw[List.getElem?_set,List.getElem?_set]
 split at j
 ·rename_i A;rw[s]at j;cases j;rw[ah rfl,ah (by rw[bZ,E];omega),A]
 ·rename_i A;split at j
  ·rename_i B;rw[q]at j;cases j;rw[ag (by omega),ah rfl,ah (by rw[E];omega),B];push_cast;rfl
  ·rename_i B;have rx:=t x (bB j);have t:x≠a:=fun e=>(by subst e;exact A (ks z j q));have q:x≠b:=fun e=>(by subst e;exact B (ks z j s));rw[ag (by omega),ag (by omega)];exact N L x j
theorem An {F:Nat→Prop}{w:World}{z:Nat}{ps:List Int}(h:ba F w z ps)(lv:Nat)(I:lv+1<ps.length) :
  Calls Tryz.prog 250 #[.pointer (some ⟨z,0,none⟩),.int .i64 (lv:Int)] w fun e w'=>e=.returned (.int .u8 0)∧af F w w'∧ba F w' z (aK ps lv):=by
 have H:=aa h
 have bq:=h.le
 obtain⟨⟨bx,bd,j,a4,qs,A,L,ad,B,X⟩,al,am,W⟩:=h
 obtain⟨t,rfl,E,ab,S⟩:=ad (fun e=>by rw[e]at I;simp at I)
 obtain⟨bt,Y,a7⟩:=dD.1 W
 obtain⟨a,N⟩:∃b,ps[lv]?=some b:=⟨_,ar (by omega)⟩
 obtain⟨b,O⟩:∃b,ps[lv+1]?=some b:=⟨_,ar I⟩
 have a8:=Y a (bB N)
 have a':=Y b (bB O)
 have br:a≠b:=fun e=>by subst e;have:=ks a7 N O;omega
 have a5:=E.ne A
 have a6:=B.ne A
 have bf:w.cell? ⟨z,0,none⟩=some (.slice (some ⟨t,0,none⟩) ps.length bd):=by rw[cell_of_row w z 0 _ _ _ A];rfl
 have bg:w.cell? ⟨z,1,none⟩=some (.slice (some ⟨j,0,none⟩) ps.length a4):=by rw[cell_of_row w z 1 _ _ _ A];rfl
 have bx:=E.cell N
 have bx:=E.cell O
 have bx:=E.frozen lv
 have bx:=E.frozen (lv+1)
 obtain⟨q,rfl⟩:∃q:Nat,a=(q:Int):=⟨a.toNat,by omega⟩
 obtain⟨s,rfl⟩:∃s:Nat,b=(s:Int):=⟨b.toNat,by omega⟩
 obtain⟨bx,a0⟩:∃b,qs[q]?=some b:=⟨_,ar (by rw[L.1];omega)⟩
 obtain⟨bx,a1⟩:∃b,qs[s]?=some b:=⟨_,ar (by rw[L.1];omega)⟩
 have bx:=B.cell a0
 have bx:=B.cell a1
 have bx:=B.frozen q
 have bx:=B.frozen s
 have bx:q≠s:=by omega
 have av:∀d W',W'=(((((w.drewN d).setCell ⟨t,lv,none⟩ (.int .i64 (s:Int))).setCell ⟨t,lv+1,none⟩ (.int .i64 (q:Int))).setCell ⟨j,q,none⟩ (.int .i64 ((lv:Int)+1))).setCell ⟨j,s,none⟩ (.int .i64 (lv:Int))).drew→af F w W'∧ba F W' z (aK ps lv):=by
  rintro d W' rfl;have T:ae w (w.drewN d):=(ae.refl w).drewN d;obtain⟨w0,bs⟩:∃w0,w0=w.drewN d:=⟨_,rfl⟩;rw[←bs]at T ⊢;replace E:=E.ad T;replace B:=B.ad T;replace A:=T.heap A;have U:af (fun k=>k=t) w0 ((w0.setCell ⟨t,lv,none⟩ (.int .i64 (s:Int))).setCell ⟨t,lv+1,none⟩ (.int .i64 (q:Int))):=af.setCell (F:=fun k=>k=t) (p:=⟨t,lv+1,none⟩) (af.setCell (F:=fun k=>k=t) (p:=⟨t,lv,none⟩) (af.refl _ _) (.inl rfl) _) (.inl rfl) _;obtain⟨J,a3⟩:∃J,J=(w0.setCell ⟨t,lv,none⟩ (.int .i64 (s:Int))).setCell ⟨t,lv+1,none⟩ (.int .i64 (q:Int)):=⟨_,rfl⟩
  have bv:bS J t (aK ps lv):=by
   rw[a3];unfold aK;have bi:ps.getD (lv+1) 0=(s:Int):=(by simp[List.getD,O]);have bn:ps.getD lv 0=(q:Int):=(by simp[List.getD,N]);rw[bi,bn];exact(E.set lv (s:Int) (by omega)).set (lv+1) (q:Int) (by simpa using I)
  rw[←a3]at U ⊢
  have bw:bS ((J.setCell ⟨j,q,none⟩ (.int .i64 ((lv:Int)+1))).setCell ⟨j,s,none⟩ (.int .i64 (lv:Int))) j ((qs.set q ((lv:Int)+1)).set s (lv:Int)):=
   ((B.a4 U (fun e=>S e.symm)).set q _ (by rw[L.1];omega)).set s _ (by rw[bZ,L.1];omega)
  have Z:af (fun k=>k=j) J ((J.setCell ⟨j,q,none⟩ (.int .i64 ((lv:Int)+1))).setCell ⟨j,s,none⟩ (.int .i64 (lv:Int))):=af.setCell (F:=fun k=>k=j) (p:=⟨j,s,none⟩) (af.setCell (F:=fun k=>k=j) (p:=⟨j,q,none⟩) (af.refl _ _) (.inl rfl) _) (.inl rfl) _;have bb:=(T.av F).bg ((U.mono (G:=F) (fun k _ e=>by subst e;exact ab)).bg (Z.mono (G:=F) (fun k _ e=>by subst e;exact X)))
  have bp:ba F ((J.setCell ⟨j,q,none⟩ (.int .i64 ((lv:Int)+1))).setCell ⟨j,s,none⟩ (.int .i64 (lv:Int))) z (aK ps lv):=by
   refine⟨⟨some ⟨t,0,none⟩,bd,j,a4,_,?_,C9 I W L N O,fun _=>⟨t,rfl,bv.a4 Z S,ab,S⟩,bw,X⟩,al,fun k J=>by have:=am k J;have:=bb.size;omega,jK I W⟩;rw[eK];have J:=U.block z (aM A) (fun e=>a5 e.symm);have T:=Z.block z (by have:=U.size;have:=aM A;omega) (fun e=>a6 e.symm);rw[T,J];exact A
  exact⟨bb.drew,bp.ad (ae.refl _).drew⟩
 have be:=aa av
 obtain⟨n,aw⟩:∃n,n=ps.length:=⟨_,rfl⟩
 rw[←aw]at bf bg bq I a8 a'
 have I:q<n:=by omega
 have q:s<n:=by omega
 have q:t≠j:=S
 have q:j≠t:=fun e=>S e.symm
 have q:z≠t:=fun e=>a5 e.symm
 have q:z≠j:=fun e=>a6 e.symm
 clear H A L ad B X al am W E ab S bt Y a7 N O a8 a' br a0 a1 av aw
 go_enter Tryz.func250,Tryz.ntmps250
 go_wp2_with fail
 go_quiet (fail)
 go_wp2_with fail
 go_region
 go_wp2_with fail
 go_region
 go_wp2_with fail
 go_ret
 exact⟨rfl,be.out _ _ rfl⟩
end Go.Proofs.YtafkamlhimkbmaaGreat
