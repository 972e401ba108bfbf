/-
  cache.Cache at K = apply.job, V = api.Edge: New, Get, Put.
-/
import Derived.Test.YtafkamlhimkbmaaGreatPViewT
import Derived.Shelf.Spec.BitsCarry
namespace Go.Proofs.YtafkamlhimkbmaaGreat
set_option maxRecDepth 1000000
set_option maxHeartbeats 8000000
set_option linter.unusedSimpArgs false
set_option linter.unusedVariables false
open Go.RowKit
structure aD where
 fo:Int
 op:Int
 lv:Int
 ea:Edge
 eb:Edge
 ec:Edge
deriving DecidableEq
structure aD.ok (j:aD):Prop where
 f:0≤j.fo∧j.fo≤255
 o:0≤j.op∧j.op≤255
 l:0≤j.lv∧j.lv≤255
 a:j.ea.ok
 b:j.eb.ok
 c:j.ec.ok
def aD.cs (j:aD):List Value:=[.int .u8 j.fo,.int .u8 j.op,.int .u8 j.lv,.int .u8 j.ea.tag,.int .u32 j.ea.to,.int .u8 j.eb.tag,.int .u32 j.eb.to,.int .u8 j.ec.tag,.int .u32 j.ec.to]
def aD.cc (j:aD):Nat:=jc j.fo j.op j.lv j.ea j.eb j.ec
theorem aD.gu (j:aD):j.cc<64:=fE _ (by decide)
def ig (j:aD)(v:Edge):List Value:=j.cs++[.int .u8 v.tag,.int .u32 v.to,.int .i64 1]
structure bX (w:World)(kb lb:Nat)(en:Nat→Option (aD×Edge)):Prop where
 head:∃h m:Int,w.heap[kb]?=some (.cells #[.slice (some ⟨lb,0,none⟩) 64 64,.int .i64 1,.int .i64 h,.int .i64 m] 258 (0,0))
 body:∃cur:Array Value,w.heap[lb]?=some (.cells cur 320 (0,0))∧cur.size=768∧∀i,i<64→match en i with|none=>cur[i*12+11]?=some (.int .i64 0)|some (j,v)=>(∀t,t<12→cur[i*12+t]?=(ig j v)[t]?)∧j.ok∧v.ok
 ne:kb≠lb
theorem bX.keep {G:Nat→Prop}{w z:World}{s t:Nat}{u:Nat→Option (aD×Edge)}(h:bX w s t u)(D:af G w z)(I:¬G s)(J:¬G t):bX z s t u:=by
 obtain⟨⟨x,y,z⟩,⟨E,u,N⟩,O⟩:=h;exact⟨⟨x,y,(D.block s (bu z) I).trans z⟩,⟨E,(D.block t (bu u) J).trans u,N⟩,O⟩
theorem bX.U {w z:World}{t u:Nat}{s:Nat→Option (aD×Edge)}(h:bX w t u s)(D:ae w z):bX z t u s:=h.keep (D.upd (fun _=>False)) (fun h=>h) (fun h=>h)
theorem bX.cy {w:World}{s t:Nat}{u:Nat→Option (aD×Edge)}(h:bX w s t u):s<w.heap.size∧t<w.heap.size:=by
 obtain⟨⟨x,y,t⟩,⟨u,s,z⟩,D⟩:=h;exact⟨bu t,bu s⟩
theorem bX.count {w:World}{s t:Nat}{u:Nat→Option (aD×Edge)}(h:bX w s t u)(o:Nat)(O:o=2∨o=3)(v:Int):bX (w.setCell ⟨s,o,none⟩ (.int .i64 v)) s t u:=by
 obtain⟨⟨x,y,N⟩,⟨I,D,J⟩,E⟩:=h;have Q:af (fun k=>k=s) w (w.setCell ⟨s,o,none⟩ (.int .i64 v)):=(af.refl (fun k=>k=s) w).setCell (p:=⟨s,o,none⟩) (.inl rfl) _;refine⟨?_,⟨I,(Q.block t (bu D) (fun e=>E e.symm)).trans D,J⟩,E⟩;have z:=Go.heap_setCell_same w s o _ _ (.int .i64 v) N;rcases O with rfl|rfl;·exact⟨v,y,z⟩
 ·exact⟨x,v,z⟩
theorem tz {t:Array Value}{i:Nat}{j:aD}{v:Edge}(h:∀s,s<12→t[i*12+s]?=(ig j v)[s]?){s:Nat}{x:Value}(u:(ig j v)[s]?=some x):t[i*12+s]?=some x:=by
 have t:=(List.getElem?_eq_some_iff.1 u).1;exact(h s (by simpa[ig,aD.cs]using t)).trans u
theorem bX.put {w N:World}{J D:Nat}{E:Nat→Option (aD×Edge)}(h:bX w J D E){j:aD}{v:Edge}(Z:j.ok)(al:v.ok)(ah:af (fun k=>k=D) w N)
  (ab:∃t,N.heap[D]?=some (.cells t 320 (0,0))∧t.size=768∧(∀s,s<12→t[j.cc*12+s]?=(ig j v)[s]?)∧∀z,w.heap[D]?=some (.cells z 320 (0,0))→∀k,(∀s,s<12→k≠j.cc*12+s)→t[k]?=z[k]?) :
  bX N J D (fun i=>if i=j.cc then some (j,v)else E i):=by
 obtain⟨⟨x,y,Q⟩,⟨z,X,hs,Y⟩,U⟩:=h
 obtain⟨t,N,ad,V,D⟩:=ab
 have W:=D z X
 refine⟨⟨x,y,(ah.block J (bu Q) U).trans Q⟩,⟨t,N,ad,fun i hi=>?_⟩,U⟩
 by_cases he:i=j.cc
 ·rw[ai he];subst he;exact⟨V,Z,al⟩
 ·rw[ag he];have u:=Y i hi;have T:∀D,D<12→t[i*12+D]?=z[i*12+D]?:=fun D hs=>W _ (fun s I e=>he (by omega));cases O:E i with
  |none=>rw[O]at u;simp only[]at u ⊢;rw[T 11 (by omega)];exact u
  |some q=>
   obtain⟨t,z⟩:=q;rw[O]at u;simp only[]at u ⊢;exact⟨fun s I=>by rw[T s I];exact u.1 s I,u.2⟩
theorem yl (x y:aD)(w:World):(binOp .neq 204 (.agg #[.int .u8 x.fo,.int .u8 x.op,.int .u8 x.lv,.int .u8 x.ea.tag,.int .u32 x.ea.to,.int .u8 x.eb.tag,.int .u32 x.eb.to,.int .u8 x.ec.tag,.int .u32 x.ec.to]) (.agg #[.int .u8 y.fo,.int .u8 y.op,.int .u8 y.lv,.int .u8 y.ea.tag,.int .u32 y.ea.to,.int .u8 y.eb.tag,.int .u32 y.eb.to,.int .u8 y.ec.tag,.int .u32 y.ec.to])).run Tryz.prog w=.ok (.bool (!decide (x=y))) w:=by
 obtain⟨a,b,c,⟨d,e⟩,⟨f,g⟩,⟨h,i⟩⟩:=x;obtain⟨O,b',Q,⟨d',e'⟩,⟨T,g'⟩,⟨h',U⟩⟩:=y;simp only[];by_cases s:a=O
 ·by_cases t:b=b'
  ·by_cases u:c=Q
   ·by_cases z:d=d'
    ·by_cases D:e=e'
     ·by_cases E:f=T
      ·by_cases I:g=g'
       ·by_cases J:h=h'
        ·by_cases N:i=U;·simp[go_sem,s,t,u,z,D,E,I,J,N]
         ·simp[go_sem,s,t,u,z,D,E,I,J,N]
        ·simp[go_sem,s,t,u,z,D,E,I,J]
       ·simp[go_sem,s,t,u,z,D,E,I]
      ·simp[go_sem,s,t,u,z,D,E]
     ·simp[go_sem,s,t,u,z,D]
    ·simp[go_sem,s,t,u,z]
   ·simp[go_sem,s,t,u]
  ·simp[go_sem,s,t]
 ·simp[go_sem,s]
theorem np {w:World}{u E:Nat}{I:Nat→Option (aD×Edge)}(h:bX w u E I)(j:aD)(J:j.ok) :
  Calls Tryz.prog 241 #[.pointer (some ⟨u,0,none⟩),.agg #[.int .u8 j.fo,.int .u8 j.op,.int .u8 j.lv,.int .u8 j.ea.tag,.int .u32 j.ea.to,.int .u8 j.eb.tag,.int .u32 j.eb.to,.int .u8 j.ec.tag,.int .u32 j.ec.to]] w fun e ah=>
   ((∃v,I j.cc=some (j,v)∧e=.returned (.tuple #[.agg #[.int .u8 v.tag,.int .u32 v.to],.bool true]))∨((∀v,I j.cc≠some (j,v))∧e=.returned (.tuple #[.agg #[.int .u8 (⟨0,0⟩:Edge).tag,.int .u32 (⟨0,0⟩:Edge).to],.bool false])))∧bX ah u E I∧af (fun k=>k=u) w ah:=by
 have V:∀(s:World),ae w s→Calls Tryz.prog 257 #[.pointer (some ⟨u,0,none⟩),.agg #[.int .u8 j.fo,.int .u8 j.op,.int .u8 j.lv,.int .u8 j.ea.tag,.int .u32 j.ea.to,.int .u8 j.eb.tag,.int .u32 j.eb.to,.int .u8 j.ec.tag,.int .u32 j.ec.to]] s fun e ah=>e=.returned (.pointer (some ⟨E,j.cc*12,none⟩))∧ae s ah:=fun s O=>by
  obtain⟨x,y,Q⟩:=(h.U O).head;exact nn u E j.fo j.op j.lv j.ea j.eb j.ec J.f J.o J.l J.a J.b J.c s (by rw[cell_of_row s u 0 _ _ _ Q];rfl)
 have av:=j.gu
 obtain⟨i,hi⟩:∃i,i=j.cc:=⟨_,rfl⟩
 rw[←hi]at av ⊢
 simp only[←hi]at V
 obtain⟨ah,bv⟩:=h.cy
 -- what the cells are in any world behind
 have am:∀s,ae w s→∃h m:Int,s.cell? ⟨u,1,none⟩=some (.int .i64 1)∧s.cell? ⟨u,2,none⟩=some (.int .i64 h)∧s.cell? ⟨u,3,none⟩=some (.int .i64 m)∧(∀o,s.frozen? ⟨u,o,none⟩=false)∧(I i=none→s.cell? ⟨E,i*12+11,none⟩=some (.int .i64 0))∧(∀z v,I i=some (z,v)→∀ay x,(ig z v)[ay]?=some x→s.cell? ⟨E,i*12+ay,none⟩=some x):=fun s O=>by
  obtain⟨⟨x,y,Q⟩,⟨ah,a3,-,a4⟩,-⟩:=h.U O;refine⟨x,y,by rw[cell_of_row s u 1 _ _ _ Q];rfl,by rw[cell_of_row s u 2 _ _ _ Q];rfl,by rw[cell_of_row s u 3 _ _ _ Q];rfl,fun o=>frozen_of_row s u o _ _ Q,fun ah=>?_,fun z v hs ay al ba=>?_⟩
  ·have:=a4 i av;rw[ah]at this;rw[cell_of_row s E _ _ _ _ a3];simp only[this]
  ·have:=a4 i av;rw[hs]at this;rw[cell_of_row s E _ _ _ _ a3];simp only[tz this.1 ba]
 obtain⟨q,a7⟩:∃q,q=i*12:=⟨_,rfl⟩
 simp only[←a7]at V am
 have a0:=aa V
 have a1:=aa am
 have Q:=aa h
 have ah:=aa h.ne
 have ah:u≠E:=h.ne
 have ah:=fun(x:aD) (s:World)=>yl x j s
 clear V am h hi a7 J
 have a6:∀(s:World) (o:Nat) (v:Int) (y al:Value),ae w s→(o=2∨o=3)→bX (((s.setCell ⟨u,o,none⟩ (.int .i64 v)).setCell ⟨w.heap.size+1,0,none⟩ y).setCell ⟨w.heap.size+1,1,none⟩ al) u E I∧af (fun k=>k=u) w (((s.setCell ⟨u,o,none⟩ (.int .i64 v)).setCell ⟨w.heap.size+1,0,none⟩ y).setCell ⟨w.heap.size+1,1,none⟩ al):=fun s o v y al O s=>
  ⟨((Q.out.U O).count o s v).keep (((af.refl (fun k=>k=w.heap.size+1) _).setCell (p:=⟨w.heap.size+1,0,none⟩) (.inl rfl) _).setCell (p:=⟨w.heap.size+1,1,none⟩) (.inl rfl) _) (by omega) (by omega),(((ae.upd O (fun k=>k=u)).setCell (p:=⟨u,o,none⟩) (.inl rfl) _).setCell (p:=⟨w.heap.size+1,0,none⟩) (.inr (Nat.le_add_right _ 1)) _).setCell (p:=⟨w.heap.size+1,1,none⟩) (.inr (Nat.le_add_right _ 1)) _⟩
 have N:=aa a6
 clear a6
 cases a5:I i with
 |none=>
  go_enter Tryz.func241,Tryz.ntmps241;go_wp2_with fail;refine(a0.out _ kp).mono ?_;rintro a2 w1 ⟨rfl,t⟩;have aw:ae w w1:=kp;obtain⟨a',bi,bb,bc,bd,T,s,-⟩:=a1.out w1 aw;have s:=s a5;have be:=T 2;have bh:=T 3;have Y:=t.I (a:=⟨w.heap.size+1,0,none⟩) (v:=.int .u8 0);have Z:=t.I (a:=⟨w.heap.size+1,1,none⟩) (v:=.int .u32 0);have bn:=t.I (a:=⟨w.heap.size+1+1,0,none⟩) (v:=.int .u8 0);have bt:=t.I (a:=⟨w.heap.size+1+1,1,none⟩) (v:=.int .u32 0);have U:=fun o:Nat=>t.c8 (a:=⟨w.heap.size+1,o,none⟩);have ab:=U 0;have ad:=U 1;have ax:=t.size;simp only[ak]at ax;go_wp2_with fail;go_quiet (fail);go_wp2_with fail;have X:w.heap.size+1<w1.heap.size:=by omega
  refine an (v:=.tuple #[.agg #[.int .u8 0,.int .u32 0],.bool false]) (by simp[results,Tryz.results241,go_sem,Y,Z,ab,ad,X]) rfl ⟨.inr ⟨fun v e=>(by cases e),rfl⟩,?_,?_⟩;·exact(N.out _ 3 _ _ _ kp (.inr rfl)).1
  ·exact(N.out _ 3 _ _ _ kp (.inr rfl)).2
 |some p=>
  obtain⟨z,v⟩:=p;go_enter Tryz.func241,Tryz.ntmps241;go_wp2_with fail;refine(a0.out _ kp).mono ?_;rintro a2 w1 ⟨rfl,t⟩;have aw:ae w w1:=kp;obtain⟨a',bi,bb,bc,bd,T,-,D⟩:=a1.out w1 aw;have D:=D z v a5;have a8:=D 0 (.int .u8 z.fo) rfl;have a2:=D 1 (.int .u8 z.op) rfl;have s:=D 2 (.int .u8 z.lv) rfl;have s:=D 3 (.int .u8 z.ea.tag) rfl;have s:=D 4 (.int .u32 z.ea.to) rfl;have s:=D 5 (.int .u8 z.eb.tag) rfl;have s:=D 6 (.int .u32 z.eb.to) rfl;have s:=D 7 (.int .u8 z.ec.tag) rfl;have s:=D 8 (.int .u32 z.ec.to) rfl;have s:=D 9 (.int .u8 v.tag) rfl;have s:=D 10 (.int .u32 v.to) rfl;have s:=D 11 (.int .i64 1) rfl;rw[gH]at a8;have s:=t.I (a:=⟨w.heap.size,0,none⟩) (v:=.int .u8 j.fo);have s:=t.I (a:=⟨w.heap.size,1,none⟩) (v:=.int .u8 j.op);have s:=t.I (a:=⟨w.heap.size,2,none⟩) (v:=.int .u8 j.lv);have s:=t.I (a:=⟨w.heap.size,3,none⟩) (v:=.int .u8 j.ea.tag);have s:=t.I (a:=⟨w.heap.size,4,none⟩) (v:=.int .u32 j.ea.to);have s:=t.I (a:=⟨w.heap.size,5,none⟩) (v:=.int .u8 j.eb.tag);have s:=t.I (a:=⟨w.heap.size,6,none⟩) (v:=.int .u32 j.eb.to);have s:=t.I (a:=⟨w.heap.size,7,none⟩) (v:=.int .u8 j.ec.tag);have s:=t.I (a:=⟨w.heap.size,8,none⟩) (v:=.int .u32 j.ec.to);have be:=T 2;have bh:=T 3;have Y:=t.I (a:=⟨w.heap.size+1,0,none⟩) (v:=.int .u8 0);have Z:=t.I (a:=⟨w.heap.size+1,1,none⟩) (v:=.int .u32 0);have bn:=t.I (a:=⟨w.heap.size+1+1,0,none⟩) (v:=.int .u8 0);have bt:=t.I (a:=⟨w.heap.size+1+1,1,none⟩) (v:=.int .u32 0);have U:=fun o:Nat=>t.c8 (a:=⟨w.heap.size+1,o,none⟩);have ab:=U 0;have ad:=U 1;have ax:=t.size;simp only[ak]at ax;go_wp2_with fail;have X:w.heap.size+1<w1.heap.size:=by omega
  by_cases W:z=j
  ·have a9:decide (z=j)=true:=bM W;go_quiet (fail);go_wp2_with fail;refine an (v:=.tuple #[.agg #[.int .u8 v.tag,.int .u32 v.to],.bool true]) (by simp[results,Tryz.results241,go_sem,Y,Z,ab,ad,X]) rfl ⟨.inl ⟨v,by rw[W],rfl⟩,?_,?_⟩;·exact(N.out _ 2 _ _ _ kp (.inl rfl)).1
   ·exact(N.out _ 2 _ _ _ kp (.inl rfl)).2
  ·have a9:decide (z=j)=false:=bQ W;go_quiet (fail);go_wp2_with fail;refine an (v:=.tuple #[.agg #[.int .u8 0,.int .u32 0],.bool false]) (by simp[results,Tryz.results241,go_sem,Y,Z,ab,ad,X]) rfl ⟨.inr ⟨fun v e=>W (by injection e with e;injection e),rfl⟩,?_,?_⟩;·exact(N.out _ 3 _ _ _ kp (.inr rfl)).1
   ·exact(N.out _ 3 _ _ _ kp (.inr rfl)).2
theorem pT (x y c:Int)(I:0≤x)(J:0≤y)(O:y<2 ^ 64)(E:0≤c)(N:c≤1):∃u k:Int,(∀w,(callFunc 273 #[.int .u64 x,.int .u64 y,.int .u64 c]).run Tryz.prog w=.ok (.value (.tuple #[.int .u64 u,.int .u64 k])) w)∧u=(x+aj-y-c)%aj∧k=(if x<y+c then 1 else 0):=by
 obtain⟨s,rfl⟩:=Int.eq_ofNat_of_zero_le I;obtain⟨t,rfl⟩:=Int.eq_ofNat_of_zero_le J;obtain⟨C,rfl⟩:=Int.eq_ofNat_of_zero_le E;refine⟨_,_,fun w=>?_,rfl,rfl⟩;rw[run_callFunc_extern Tryz.func273 (by kernel_rfl) (by kernel_rfl) (by kernel_rfl) (e:=sub64Entry) (by kernel_rfl),run_sub64 s t C (by omega)]
 have z:(((s+18446744073709551616-t-C)%18446744073709551616:Nat):Int)=((s:Int)+aj-t-C)%aj:=by
  have:(aj:Int)=18446744073709551616:=rfl;rw[this];omega
 have D:((if s<t+C then 1 else 0:Nat):Int)=if(s:Int)<t+C then 1 else 0:=by split<;>split<;>omega
 rw[←z,←D];rfl
theorem wH {lo lo':Nat}{x y:Value}{w:World}(T:aB lo w 0 x)(ah:aB lo' w 0 y) :
  Calls Tryz.prog 259 #[x,y] w fun e t=>∃D,e=.returned (.tuple #[D,.bool true])∧aB w.heap.size t 0 D∧ae w t:=by
 have U:(ar aj 0).length=0:=by rw[fM];rfl
 have V:Calls Tryz.prog 261 #[x,y] w fun e t=>∃(u z:Value) (E:Option Addr) (J:Nat) (I:Option Addr) (N:Nat),e=.returned (.tuple #[u,z,.bool true])∧u=.slice E 0 J∧z=.slice I 0 N∧aB w.heap.size t 0 u∧aB w.heap.size t 0 z∧ae w t:=by
  refine(kF T ah (by omega) (by omega)).mono ?_;rintro e w1 ⟨u,z,rfl,O,Q,ay⟩;have s:=O;have ax:=Q;obtain⟨E,J,rfl,a7,a8⟩:=O;obtain⟨I,N,rfl,-,a7⟩:=Q;exact⟨_,_,E,J,I,N,rfl,by rw[U],by rw[U],s,ax,ay⟩
 have W:∀(s:World) (u z:Value),aB w.heap.size s 0 u→aB w.heap.size s 0 z→Calls Tryz.prog 272 #[u,z] s fun e t=>(∃c,e=.returned (.int .i64 c)∧0≤c∧c≤1)∧ae s t:=fun s u z O Q=>oQ O Q (aI 0) (by omega) (by omega)
 have X:∀(s:World) (a:Option Addr) (c:Nat),Calls Tryz.prog 264 #[.slice a 0 c] s fun e t=>∃D,e=.returned (.tuple #[D,.bool true])∧aB s.heap.size t 0 D∧ae s t:=fun s a c=>qc a c [] s (fun i x T=>by simp at T) (by simp) (Nat.zero_le _) (by show(ar aj 0).length≤64;omega)
 have al:=aa V
 have am:=aa W
 have aw:=aa X
 clear V W X U T ah
 go_enter Tryz.func259,Tryz.ntmps259
 go_wp2_with (first
  |(go_at_call 261;refine al.out.mono ?_;rintro e w1 ⟨u,z,E,J,I,N,rfl,a1,a2,ab,ad,Y⟩;have av:=aa (am.out w1 u z ab ad);subst a1;subst a2;clear ab ad)
  |(go_at_call 272;refine av.out.mono ?_;rintro e a4 ⟨⟨a6,rfl,s,t⟩,Z⟩)
  |fail)
 go_loopg [27] 0 (fun gk s wr=>s=.int .i64 0∧a4=wr)
 case atStart=>exact⟨rfl,rfl⟩
 case round=>
  obtain⟨rfl,rfl⟩:=hrel;go_wp2_with (first|(go_at_call 264;refine(aw.out _ _ _).mono ?_;rintro e s ⟨a5,rfl,a3,a0⟩)|fail)
  go_ret2;exact⟨a5,rfl,a3.le (Y.trans Z).size,(Y.trans Z).trans a0⟩
theorem wG {lo lo' s v:Nat}{x y:Value}{w:World}(bi:aB lo w s x)(bn:aB lo' w v y)(ba:v≤s)(al:(ar aj s).length≤64)(a2:(ar aj v).length≤64) :
  Calls Tryz.prog 259 #[x,y] w fun e t=>∃W,e=.returned (.tuple #[W,.bool true])∧aB w.heap.size t (s-v) W∧ae w t:=by
 by_cases bt:s=0
 ·subst bt;obtain rfl:v=0:=by omega
  exact wH bi bn
 obtain⟨us,z⟩:∃us,us=ar aj s:=⟨_,rfl⟩
 obtain⟨vs,T⟩:∃vs,vs=ar aj v:=⟨_,rfl⟩
 have be:aM aj us:=by rw[z];exact ft aR _
 have bh:aM aj vs:=by rw[T];exact ft aR _
 have cb:vs.length≤us.length:=by
  rw[z,T];exact eh aR (Nat.lt_of_le_of_lt ba (fs aR (aI _)))
 have a3:az aj (ej aj us vs 0)=((s-v:Nat):Int):=by
  rw[ze aR be bh cb (by rw[z,T,ff aR,ff aR];omega),z,T,ff aR,ff aR];omega
 have ca:(ar aj (s-v)).length≤64:=eh aR (Nat.lt_of_le_of_lt (Nat.sub_le s v) (fs aR al))
 obtain⟨R,N⟩:∃R,R=ej aj us vs 0:=⟨_,rfl⟩
 have b8:us.take 0++ej aj (us.drop 0) (vs.drop 0) 0=R:=by rw[N];rfl
 have cf:aM aj R:=by rw[N];exact pV aR _ _ _
 have ay:R.length=us.length:=by rw[N];exact pU _ _ _ _
 rw[←N]at a3
 clear N
 have cc:us≠[]:=by
  intro e;rw[z]at e;by_cases h0:s=0;·exact bt h0
  ·rw[jj h0 aR]at e;cases e
 have b6:∀(u:World) (g cap:Nat) (ws:List Int),ws=R→bO u g ws→ws.length≤cap→Calls Tryz.prog 264 #[.slice (some ⟨g,0,none⟩) ws.length cap] u fun e t=>∃W,e=.returned (.tuple #[W,.bool true])∧aB u.heap.size t (s-v) W∧ae u t:=fun u g cap ws he U c4=>by
  subst he;have q:=mP cap ws u U cf (by rw[ay,z];omega) c4 (by rw[a3,bG];exact ca);rw[a3,bG]at q;exact q
 have a8:Calls Tryz.prog 261 #[x,y] w fun e t=>∃(D E:Value) (g Z:Nat) (Y:Option Addr) (aw:Nat),e=.returned (.tuple #[D,E,.bool true])∧D=.slice (some ⟨g,0,none⟩) us.length Z∧E=.slice Y vs.length aw∧us.length≤Z∧w.heap.size≤g∧bO t g us∧gF (g+1) t Y vs∧aB w.heap.size t s D∧aB w.heap.size t v E∧ae w t:=by
  rw[z,T]at *;refine(oO bi bn al a2).mono ?_;rintro e cl ⟨D,E,w1,rfl,J,ah,Q,ax⟩;have c1:=J.U Q;have c2:=ax.le ah.size;obtain⟨d5,Z,rfl,a9,d1⟩:=J;obtain⟨g,rfl,b7,U⟩:=d1 cc;obtain⟨Y,aw,rfl,-,d2⟩:=ax.le (show g+1≤w1.heap.size from U.lt);exact⟨_,_,g,Z,Y,aw,rfl,rfl,rfl,a9,b7,U.U Q,d2,c1,c2,ah.trans Q⟩
 rw[←z]at al
 rw[←T]at a2
 have b5:∀(u:World) (D E:Value),aB w.heap.size u s D→aB w.heap.size u v E→Calls Tryz.prog 272 #[D,E] u fun e t=>(∃c,e=.returned (.int .i64 c)∧0≤c∧c≤1)∧ae u t:=fun u D E J ax=>oQ J ax ba (by rw[←z];exact al) (by rw[←T];exact a2)
 clear z T a3 ca bi bn cf ba bt cc
 obtain⟨ad,a0⟩:∃n,n=us.length:=⟨_,rfl⟩
 obtain⟨b0,bb⟩:∃n,n=vs.length:=⟨_,rfl⟩
 rw[←a0,←bb]at a8 cb
 rw[←a0]at al ay
 have a5:=aa a0
 have b1:=aa bb
 have cy:=aa b6
 have cn:=aa a8
 have cv:=aa b8
 have s:=aa ay
 have cB:=aa be
 have cD:=aa bh
 have co:=aa b5
 clear b6 b8 ay be bh a0 bb a8 b5 a2
 go_enter Tryz.func259,Tryz.ntmps259
 go_wp2_with (first
  |(go_at_call 261;refine cn.out.mono ?_;rintro e w1 ⟨D,E,g,Z,Y,aw,rfl,dk,dl,a9,b7,U,ci,cd,ce,ah⟩;have b2:=aa U;have c0:=aa ci;have cp:=aa (co.out w1 D E cd ce);subst dk;subst dl;clear U ci cd ce)
  |(go_at_call 272;refine cp.out.mono ?_;rintro e cl ⟨⟨d6,rfl,s,t⟩,Q⟩)
  |fail)
 have s:=b2.out.lt
 have s:=ah.size
 have s:=Q.size
 have cx:=aa (b2.out.U Q)
 go_loopg [7,8,9,27] ad (fun gk t s s s wr=>∃(i:Nat) (c:Int) (rs:List Int),s=.int .i64 (i:Int)∧t=.int .u64 c∧i+gk=ad∧0≤c∧c≤1∧rs.length=ad∧rs.take i++ej aj (us.drop i) (vs.drop i) c=R∧(∀j,i≤j→rs[j]?=us[j]?)∧bO wr g rs∧af (fun k=>k=g) cl wr)
 case atStart=>exact⟨0,0,us,rfl,rfl,by omega,by omega,by omega,a5.out.symm,cv.out,fun j _=>rfl,cx.out,af.refl _ _⟩
 case round=>
  obtain⟨i,c,rs,rfl,rfl,D,b3,b4,u,t,z,N,s⟩:=hrel;have a4:=aa t;have X:=aa N;have av:=aa s;have I:=aa u;have a6:=aa z;clear t N s u z;have s:=X.out.lt;by_cases hi:i<ad
  ·obtain⟨p,ab⟩:∃p,us[i]?=some p:=⟨_,aQ (by rw[←a5.out];exact hi)⟩;have a1:=cB.out p (dy ab);have bc:rs[i]?=some p:=(by rw[a6.out i (aI _)];exact ab);have s:=X.out.cell bc;have s:=X.out.frozen i;have dB:(i:Int)<(ad:Int):=(by omega);by_cases c6:i<b0
   ·have cj:bq wr Y vs:=by
     have J:=c0.out.U Q;refine gF.b1 (lo:=g+1) (fun da=>?_) (fun W s=>cD.out W s);obtain⟨t,s,u,z⟩:=J da;exact⟨t,s,u,z.keep av.out (fun e=>by omega)⟩
    obtain⟨q,s,t,ch,db,dj,c3,c5⟩:=gr cj i (by rw[←b1.out];exact c6);subst c3;have s:=aJ c5;have d0:(i:Int)<(b0:Int):=(by omega);obtain⟨am,k,bd,hs,O⟩:=pT p q c a1.1 db dj b3 b4;have V:=pW ab a4.out;rw[kj ch,←hs,←O]at V;have a':0≤k∧k≤1:=by rw[O];split<;>decide
    have a7:=aa V;clear V hs O ab ch bc a1 cj;obtain⟨bv,bw⟩:=a';go_wp2_with (simp only[bd])
    go_roundg (gk-1)
    case rel=>exact⟨i+1,k,rs.set i am,congrArg (Value.int .i64) (by omega),rfl,by omega,bv,bw,by rw[de,I.out],by rw[ju (by rw[I.out];omega)];exact a7.out,fun j c8=>by rw[fV (by omega)];exact a6.out j (by omega),X.out.set i am (by rw[I.out];omega),av.out.setCell (Or.inl rfl) _⟩
    case measure=>omega
   ·have d0:¬(i:Int)<(b0:Int):=(by omega);obtain⟨am,k,bd,hs,O⟩:=pT p 0 c a1.1 (Int.le_refl 0) (by decide) b3 b4;have V:=pW ab a4.out;rw[nG (by rw[←b1.out];omega),←hs,←O]at V;have a':0≤k∧k≤1:=by rw[O];split<;>decide
    have a7:=aa V;clear V hs O ab bc a1;obtain⟨bv,bw⟩:=a';go_wp2_with (simp only[bd])
    go_roundg (gk-1)
    case rel=>exact⟨i+1,k,rs.set i am,congrArg (Value.int .i64) (by omega),rfl,by omega,bv,bw,by rw[de,I.out],by rw[ju (by rw[I.out];omega)];exact a7.out,fun j c8=>by rw[fV (by omega)];exact a6.out j (by omega),X.out.set i am (by rw[I.out];omega),av.out.setCell (Or.inl rfl) _⟩
    case measure=>omega
  ·have c7:i=ad:=(by omega);subst c7;have dB:¬(i:Int)<(i:Int):=by omega
   have t:rs=R:=by
    have J:=a4.out;rw[fm (by rw[I.out];exact aI _),List.drop_of_length_le (by rw[←a5.out];exact aI _)]at J;rw[←J];show rs=rs++[];rw[List.append_nil]
   have s:=cy.out _ _ Z _ t X.out (by rw[I.out];exact a9);rw[I.out]at s;have cz:=aa s;clear t s;go_wp2_with (first|(go_at_call 264;refine cz.out.mono ?_;rintro e s ⟨d3,rfl,ds,c'⟩)|fail)
   go_ret2;have b9:ae w wr:=(ah.trans Q).new av.out (fun k O=>by omega);exact⟨d3,rfl,ds.le b9.size,b9.trans c'⟩
end Go.Proofs.YtafkamlhimkbmaaGreat
