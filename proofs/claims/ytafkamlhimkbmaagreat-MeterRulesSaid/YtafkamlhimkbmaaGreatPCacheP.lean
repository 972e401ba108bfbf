/-
  cache.Put, cache.New at K = apply.job, V = api.Edge; apply.New.
-/
import Derived.Test.YtafkamlhimkbmaaGreatPNatD
namespace Go.Proofs.YtafkamlhimkbmaaGreat
set_option maxRecDepth 1000000
set_option maxHeartbeats 8000000
set_option linter.unusedSimpArgs false
set_option linter.unusedVariables false
open Go.RowKit
def kK (w:World)(s q:Nat)(j:aD)(v:Edge):World:=((((((((((((w.setCell ⟨s,q,none⟩ (.int .u8 j.fo)).setCell ⟨s,q+1,none⟩ (.int .u8 j.op)).setCell ⟨s,q+2,none⟩ (.int .u8 j.lv)).setCell ⟨s,q+3,none⟩ (.int .u8 j.ea.tag)).setCell ⟨s,q+4,none⟩ (.int .u32 j.ea.to)).setCell ⟨s,q+5,none⟩ (.int .u8 j.eb.tag)).setCell ⟨s,q+6,none⟩ (.int .u32 j.eb.to)).setCell ⟨s,q+7,none⟩ (.int .u8 j.ec.tag)).setCell ⟨s,q+8,none⟩ (.int .u32 j.ec.to)).setCell ⟨s,q+9,none⟩ (.int .u8 v.tag)).setCell ⟨s,q+10,none⟩ (.int .u32 v.to)).setCell ⟨s,q+11,none⟩ (.int .i64 1))
theorem xC {w:World}{t q:Nat}{j:aD}{v:Edge}{D:Array Value}(J:w.heap[t]?=some (.cells D 320 (0,0)))(hs:D.size=768)(ad:q+11<768) :
  ∃z,(kK w t q j v).heap[t]?=some (.cells z 320 (0,0))∧z.size=768∧(∀s,s<12→z[q+s]?=(ig j v)[s]?)∧∀k,(∀s,s<12→k≠q+s)→z[k]?=D[k]?:=by
 have h0:=Go.heap_setCell_same w t q _ _ (.int .u8 j.fo) J
 have z:=Go.heap_setCell_same _ t (q+1) _ _ (.int .u8 j.op) h0
 have D:=Go.heap_setCell_same _ t (q+2) _ _ (.int .u8 j.lv) z
 have z:=Go.heap_setCell_same _ t (q+3) _ _ (.int .u8 j.ea.tag) D
 have D:=Go.heap_setCell_same _ t (q+4) _ _ (.int .u32 j.ea.to) z
 have z:=Go.heap_setCell_same _ t (q+5) _ _ (.int .u8 j.eb.tag) D
 have D:=Go.heap_setCell_same _ t (q+6) _ _ (.int .u32 j.eb.to) z
 have z:=Go.heap_setCell_same _ t (q+7) _ _ (.int .u8 j.ec.tag) D
 have D:=Go.heap_setCell_same _ t (q+8) _ _ (.int .u32 j.ec.to) z
 have J:=Go.heap_setCell_same _ t (q+9) _ _ (.int .u8 v.tag) D
 have z:=Go.heap_setCell_same _ t (q+10) _ _ (.int .u32 v.to) J
 have I:=Go.heap_setCell_same _ t (q+11) _ _ (.int .i64 1) z
 refine⟨_,I,by simp[hs],fun s t=>?_,fun k u=>?_⟩
 ·have:s=0∨s=1∨s=2∨s=3∨s=4∨s=5∨s=6∨s=7∨s=8∨s=9∨s=10∨s=11:=by omega
  rcases this with rfl|rfl|rfl|rfl|rfl|rfl|rfl|rfl|rfl|rfl|rfl|rfl<;>simp[ia,hs,ig,aD.cs]<;>omega
 ·have E:=u 0 (by decide);have N:=u 1 (by decide);have T:=u 2 (by decide);have U:=u 3 (by decide);have V:=u 4 (by decide);have W:=u 5 (by decide);have X:=u 6 (by decide);have Y:=u 7 (by decide);have Z:=u 8 (by decide);have ab:=u 9 (by decide);have O:=u 10 (by decide);have Q:=u 11 (by decide);rw[gH]at E;simp[ia,E.symm,N.symm,T.symm,U.symm,V.symm,W.symm,X.symm,Y.symm,Z.symm,ab.symm,O.symm,Q.symm]
theorem fc {R:Nat}{x y:World}(h:af (fun j=>j=R) x y)(o:Nat)(v:Value):af (fun j=>j=R) x (y.setCell ⟨R,o,none⟩ v):=h.setCell (Or.inl rfl) v
theorem pn (w:World)(s q:Nat)(j:aD)(v:Edge):af (fun k=>k=s) w (kK w s q j v):=by
 unfold kK
 (repeat (first|with_reducible exact af.refl _ _|refine fc ?_ _ _))
theorem se {w:World}{I t:Nat}{W:Nat→Option (aD×Edge)}(h:bX w I t W)(j:aD)(N:j.ok)(v:Edge)(am:v.ok) :
  Calls Tryz.prog 243 #[.pointer (some ⟨I,0,none⟩),.agg #[.int .u8 j.fo,.int .u8 j.op,.int .u8 j.lv,.int .u8 j.ea.tag,.int .u32 j.ea.to,.int .u8 j.eb.tag,.int .u32 j.eb.to,.int .u8 j.ec.tag,.int .u32 j.ec.to],.agg #[.int .u8 v.tag,.int .u32 v.to]] w fun e u=>e=.returned (.tuple #[])∧bX u I t (fun i=>if i=j.cc then some (j,v)else W i)∧af (fun k=>k=t) w u:=by
 have X:∀(s:World),ae w s→Calls Tryz.prog 257 #[.pointer (some ⟨I,0,none⟩),.agg #[.int .u8 j.fo,.int .u8 j.op,.int .u8 j.lv,.int .u8 j.ea.tag,.int .u32 j.ea.to,.int .u8 j.eb.tag,.int .u32 j.eb.to,.int .u8 j.ec.tag,.int .u32 j.ec.to]] s fun e u=>e=.returned (.pointer (some ⟨t,j.cc*12,none⟩))∧ae s u:=fun s O=>by
  obtain⟨x,y,ab⟩:=(h.U O).head;exact nn I t j.fo j.op j.lv j.ea j.eb j.ec N.f N.o N.l N.a N.b N.c s (by rw[cell_of_row s I 0 _ _ _ ab];rfl)
 have bc:=j.gu
 obtain⟨bn,bt⟩:=h.cy
 have Y:∀s,ae w s→s.cell? ⟨I,1,none⟩=some (.int .i64 1)∧(∀o,s.frozen? ⟨t,o,none⟩=false)∧∀U,U<12→∃bn,s.cell? ⟨t,j.cc*12+U,none⟩=some bn:=fun s O=>by
  obtain⟨⟨x,y,ab⟩,⟨V,T,hs,-⟩,-⟩:=h.U O;refine⟨by rw[cell_of_row s I 1 _ _ _ ab];rfl,fun o=>frozen_of_row s t o _ _ T,fun U ab=>?_⟩;have bd:j.cc*12+U<V.size:=by omega
  exact⟨V[j.cc*12+U],by rw[cell_of_row s t _ _ _ _ T];simp[bd]⟩
 have Z:∀(s U:World),ae w s→U=kK s t (j.cc*12) j v→bX U I t (fun i=>if i=j.cc then some (j,v)else W i)∧af (fun k=>k=t) w U:=fun s U O e=>by
  subst e;refine⟨(h.U O).put N am (pn s t _ j v) ?_,(ae.upd O (fun k=>k=t)).bd (pn s t _ j v)⟩;obtain⟨-,⟨V,T,hs,-⟩,-⟩:=h.U O;obtain⟨s,O,U,V,bi⟩:=xC (q:=j.cc*12) (j:=j) (v:=v) T hs (by omega);refine⟨s,O,U,V,fun c Q=>?_⟩;rw[T]at Q;injection Q with Q;injection Q with Q;subst Q;exact bi
 obtain⟨q,al⟩:∃q,q=j.cc*12:=⟨_,rfl⟩
 simp only[←al]at X Y Z
 have a8:=aa X
 have ad:=aa Y
 have a9:=aa Z
 have be:I≠t:=h.ne
 clear X Y Z h al N am bc
 go_enter Tryz.func243,Tryz.ntmps243
 go_wp2_with fail
 obtain⟨z,D⟩:∃z,z=(w.alloc (.cells #[.int .u8 j.fo,.int .u8 j.op,.int .u8 j.lv,.int .u8 j.ea.tag,.int .u32 j.ea.to,.int .u8 j.eb.tag,.int .u32 j.eb.to,.int .u8 j.ec.tag,.int .u32 j.ec.to] 204)).alloc (.cells #[.int .u8 v.tag,.int .u32 v.to] 52):=⟨_,rfl⟩
 have bh:ae w z:=by rw[D];exact((ae.refl _).alloc _).alloc _
 have aw:z.cell? ⟨w.heap.size,0,none⟩=some (.int .u8 j.fo):=by rw[D];simp[go_sem]
 have ax:z.cell? ⟨w.heap.size,1,none⟩=some (.int .u8 j.op):=by rw[D];simp[go_sem]
 have a0:z.cell? ⟨w.heap.size,2,none⟩=some (.int .u8 j.lv):=by rw[D];simp[go_sem]
 have a1:z.cell? ⟨w.heap.size,3,none⟩=some (.int .u8 j.ea.tag):=by rw[D];simp[go_sem]
 have a2:z.cell? ⟨w.heap.size,4,none⟩=some (.int .u32 j.ea.to):=by rw[D];simp[go_sem]
 have a3:z.cell? ⟨w.heap.size,5,none⟩=some (.int .u8 j.eb.tag):=by rw[D];simp[go_sem]
 have a4:z.cell? ⟨w.heap.size,6,none⟩=some (.int .u32 j.eb.to):=by rw[D];simp[go_sem]
 have a5:z.cell? ⟨w.heap.size,7,none⟩=some (.int .u8 j.ec.tag):=by rw[D];simp[go_sem]
 have a6:z.cell? ⟨w.heap.size,8,none⟩=some (.int .u32 j.ec.to):=by rw[D];simp[go_sem]
 have a7:z.cell? ⟨w.heap.size+1,0,none⟩=some (.int .u8 v.tag):=by rw[D];simp[go_sem]
 have ay:z.cell? ⟨w.heap.size+1,1,none⟩=some (.int .u32 v.to):=by rw[D];simp[go_sem]
 obtain⟨ah,-,-⟩:=ad.out z bh
 rw[←D]
 clear D
 have s:t≠I:=fun e=>be e.symm
 have s:t≠w.heap.size:=by omega
 have z:t≠w.heap.size+1:=by omega
 have t:=s.symm
 have s:=z.symm
 go_region_held3 (fun u=>u.cell? ⟨I,1,none⟩=some (.int .i64 1)∧u.cell? ⟨w.heap.size,0,none⟩=some (.int .u8 j.fo)∧u.cell? ⟨w.heap.size,1,none⟩=some (.int .u8 j.op)∧u.cell? ⟨w.heap.size,2,none⟩=some (.int .u8 j.lv)∧u.cell? ⟨w.heap.size,3,none⟩=some (.int .u8 j.ea.tag)∧u.cell? ⟨w.heap.size,4,none⟩=some (.int .u32 j.ea.to)∧u.cell? ⟨w.heap.size,5,none⟩=some (.int .u8 j.eb.tag)∧u.cell? ⟨w.heap.size,6,none⟩=some (.int .u32 j.eb.to)∧u.cell? ⟨w.heap.size,7,none⟩=some (.int .u8 j.ec.tag)∧u.cell? ⟨w.heap.size,8,none⟩=some (.int .u32 j.ec.to)∧u.cell? ⟨w.heap.size+1,0,none⟩=some (.int .u8 v.tag)∧u.cell? ⟨w.heap.size+1,1,none⟩=some (.int .u32 v.to)) (go_keep) ((go_at_call 257;refine(a8.out _ kp).mono ?_;rintro ba w1 ⟨rfl,s⟩;have ah:=s.cell ah;have aw:=s.cell aw;have ax:=s.cell ax;have a0:=s.cell a0;have a1:=s.cell a1;have a2:=s.cell a2;have a3:=s.cell a3;have a4:=s.cell a4;have a5:=s.cell a5;have a6:=s.cell a6;have a7:=s.cell a7;have ay:=s.cell ay;have av:ae w w1:=kp;obtain⟨-,J,E⟩:=ad.out w1 av;obtain⟨s,a'⟩:=E 0 (by decide);have bb:=J (q+0);obtain⟨s,ba⟩:=E 1 (by decide);have s:=J (q+1);obtain⟨t,s⟩:=E 2 (by decide);have s:=J (q+2);obtain⟨t,s⟩:=E 3 (by decide);have s:=J (q+3);obtain⟨t,s⟩:=E 4 (by decide);have s:=J (q+4);obtain⟨t,s⟩:=E 5 (by decide);have s:=J (q+5);obtain⟨t,s⟩:=E 6 (by decide);have s:=J (q+6);obtain⟨t,s⟩:=E 7 (by decide);have s:=J (q+7);obtain⟨t,s⟩:=E 8 (by decide);have s:=J (q+8);obtain⟨t,s⟩:=E 9 (by decide);have s:=J (q+9);obtain⟨t,s⟩:=E 10 (by decide);have s:=J (q+10);obtain⟨t,s⟩:=E 11 (by decide);have s:=J (q+11);rw[gH]at a' bb;clear E))
 all_goals(try go_wp2_with fail)
 all_goals(first|go_end0|refine an (results_none rfl _ _ _) rfl ?_)
 all_goals exact⟨rfl,a9.out _ _ av rfl⟩
theorem sf {u:World}{t s:Nat}{c:Array Value}(z:u.heap[s]?=some (.cells c 320 (0,0)))(hs:c.size=768)(D:∀i,i<64→c[i*12+11]?=some (.int .i64 0))
  (E:u.heap[t]?=some (.cells #[.slice (some ⟨s,0,none⟩) 64 64,.int .i64 1,.int .i64 0,.int .i64 0] 258 (0,0))) (I:t≠s):bX u t s (fun _=>none):=
 ⟨⟨0,0,E⟩,⟨c,z,hs,D⟩,I⟩
theorem uk:(Tryz.prog.info? 320).map (fun i=>(i.zero,i.size,i.bytes))=some (some (.agg #[.int .u8 0,.int .u8 0,.int .u8 0,.int .u8 0,.int .u32 0,.int .u8 0,.int .u32 0,.int .u8 0,.int .u32 0,.int .u8 0,.int .u32 0,.int .i64 0]),12,48):=by kernel_rfl
theorem vp (i:Nat)(hi:i<64):(madeCells (Value.agg #[.int .u8 0,.int .u8 0,.int .u8 0,.int .u8 0,.int .u32 0,.int .u8 0,.int .u32 0,.int .u8 0,.int .u32 0,.int .u8 0,.int .u32 0,.int .i64 0]).cells (64*12)).toList[i*12+11]?=some (.int .i64 0):=by
 simp only[madeCells,Array.getElem?_toList,Array.getElem?_map,Value.cells];rw[Array.getElem?_eq_getElem (by simp;omega)];simp only[Array.getElem_range,Option.map_some];rw[show(i*12+11)%(#[Value.int .u8 0,.int .u8 0,.int .u8 0,.int .u8 0,.int .u32 0,.int .u8 0,.int .u32 0,.int .u8 0,.int .u32 0,.int .u8 0,.int .u32 0,.int .i64 0]:Array Value).size=11 by show(i*12+11)%12=11;omega];rfl
theorem rZ (w:World):Calls Tryz.prog 118 #[.int .i64 6] w fun e J=>∃D I,e=.returned (.tuple #[.pointer (some ⟨D,0,none⟩),.int .u8 0])∧bX J D I (fun _=>none)∧ae w J∧w.heap.size≤D∧w.heap.size≤I:=by
 obtain⟨Z,hi,W,X,Y⟩:=info_parts uk;go_enter Tryz.func118,Tryz.ntmps118;go_wp2_with (at_make;refine wpList_make_full _ rfl _ _ 256 rfl w.heap.size 320 Z _ 12 Tryz.underlying256 hi W X .i64 .i64 64 64 64 rfl rfl (by omega) (by omega) (by rw[Y];omega) (by unfold maxLen;omega) (aI _) ?_;intro w1 z U)
 go_ret2;have t:ae w w1:=af.U (F:=fun _=>False) ((af.refl _ w).c' U (fun k t=>by simp at t)) (fun _ _ h=>h);obtain⟨-,z⟩:=z;rcases z with⟨u,_⟩|⟨g,cap,O,u,z,E,D,I,Q,T⟩
 ·cases u
 ·injection u with s u N;injection s with s;injection s with s;subst s N;have s:=bu E;have V:=t.size;refine⟨w1.heap.size,w.heap.size,rfl,sf (c:=O) (((ae.refl w1).alloc _).heap E) Q (fun i hi=>?_) (heap_alloc_new w1 _) (by omega),t.alloc _,V,aI _⟩;have:=vp i hi;rw[←T,ic,ai (by omega)]at this;simpa using this
theorem qZ {F:Nat→Prop}{w:World}{sb:Nat}{M:St}(h:aq F w sb M):Calls Tryz.prog 69 #[.pointer (some ⟨sb,0,none⟩),.int .i64 6] w fun e u=>∃ob s t,e=.returned (.tuple #[.pointer (some ⟨ob,0,none⟩),.int .u8 0])∧bX u s t (fun _=>none)∧ae w u∧w.heap.size≤s∧w.heap.size≤t∧w.heap.size≤ob∧ob≠s∧ob≠t ∧
   u.cell? ⟨ob,0,none⟩=some (.pointer (some ⟨sb,0,none⟩))∧u.cell? ⟨ob,1,none⟩=some (.pointer (some ⟨s,0,none⟩)):=by
 go_enter Tryz.func69,Tryz.ntmps69
 go_wp2_with (first|(go_at_call 118;refine(rZ _).mono ?_;rintro e w1 ⟨s,t,rfl,z,D,E,I⟩)|fail)
 go_ret2
 have u:=z.cy
 have hs:=D.size
 exact⟨w1.heap.size,s,t,rfl,z.U ((ae.refl w1).alloc _),D.alloc _,E,I,hs,by omega,by omega,by simp[go_sem],by simp[go_sem]⟩
def kR (e:Edge):Int:=if e.to=0 then 0 else 1
theorem mQ (e:Edge)(he:e.ok)(w:World):Calls Tryz.prog 240 #[.agg #[.int .u8 e.tag,.int .u32 e.to]] w fun r t=>r=.returned (.int .u8 (kR e))∧ae w t:=by
 obtain⟨-,h0,t⟩:=he;unfold kR;by_cases s:e.to=0
 ·rw[ai s,s];go_enter Tryz.func240,Tryz.ntmps240;go_wp2_with fail;go_ret;exact⟨rfl,kp⟩
 ·rw[ag s];have s:0<e.to:=by omega
  go_enter Tryz.func240,Tryz.ntmps240;go_wp2_with fail;go_ret;exact⟨rfl,kp⟩
theorem An (op r:Int)(h:op=8∧r=192∨op=14∧r=252∨op=3∧r=15)(w:World):Calls Tryz.prog 127 #[.int .i64 op] w fun e I=>e=.returned (.int .i64 r)∧w=I:=by
 obtain⟨ps,E⟩:∃ps:List Int,op=8∧r=192∧ps=[0,0,0,0,0,0,0,64,192]∨op=14∧r=252∧ps=[0,0,0,4,12,28,60,124,252]∨op=3∧r=15∧ps=[0,1,3,7,15,15,15,15,15]:=by
  rcases h with⟨rfl,rfl⟩|⟨rfl,rfl⟩|⟨rfl,rfl⟩
  ·exact⟨_,.inl ⟨rfl,rfl,rfl⟩⟩
  ·exact⟨_,.inr (.inl ⟨rfl,rfl,rfl⟩)⟩
  ·exact⟨_,.inr (.inr ⟨rfl,rfl,rfl⟩)⟩
 clear h;rcases E with⟨rfl,rfl,rfl⟩|⟨rfl,rfl,rfl⟩|⟨rfl,rfl,rfl⟩
 ·go_enter Tryz.func127,Tryz.ntmps127;go_wp2_with fail;go_loopg [3,4,5] 8 (fun gk u _ z wr=>∃(d:Nat) (x:Int),z=.int .i64 (d:Int)∧d+gk=8∧u=.int .i64 x∧([0,0,0,0,0,0,0,64,192]:List Int)[d]?=some x∧w=wr)
  case atStart=>exact⟨0,0,rfl,rfl,rfl,rfl,rfl⟩
  case round=>
   obtain⟨d,x,rfl,D,rfl,t,rfl⟩:=hrel;obtain⟨d',s⟩:∃d',d'=d+1:=⟨_,rfl⟩;have:d=0∨d=1∨d=2∨d=3∨d=4∨d=5∨d=6∨d=7∨d=8:=(by omega);rcases this with rfl|rfl|rfl|rfl|rfl|rfl|rfl|rfl|rfl
   all_goals
    simp at t
    subst t
    go_wp2_with fail
    first
     |(go_roundg (gk-1)
       case rel=>exact⟨d',_,(by rw[s];rfl),(by omega),rfl,(by rw[s];decide +kernel),rfl⟩
       case measure=>omega)
     |(go_ret;exact⟨rfl,rfl⟩)
 ·go_enter Tryz.func127,Tryz.ntmps127;go_wp2_with fail;go_loopg [3,4,5] 8 (fun gk u _ z wr=>∃(d:Nat) (x:Int),z=.int .i64 (d:Int)∧d+gk=8∧u=.int .i64 x∧([0,0,0,4,12,28,60,124,252]:List Int)[d]?=some x∧w=wr)
  case atStart=>exact⟨0,0,rfl,rfl,rfl,rfl,rfl⟩
  case round=>
   obtain⟨d,x,rfl,D,rfl,t,rfl⟩:=hrel;obtain⟨d',s⟩:∃d',d'=d+1:=⟨_,rfl⟩;have:d=0∨d=1∨d=2∨d=3∨d=4∨d=5∨d=6∨d=7∨d=8:=(by omega);rcases this with rfl|rfl|rfl|rfl|rfl|rfl|rfl|rfl|rfl
   all_goals
    simp at t
    subst t
    go_wp2_with fail
    first
     |(go_roundg (gk-1)
       case rel=>exact⟨d',_,(by rw[s];rfl),(by omega),rfl,(by rw[s];decide +kernel),rfl⟩
       case measure=>omega)
     |(go_ret;exact⟨rfl,rfl⟩)
 ·go_enter Tryz.func127,Tryz.ntmps127;go_wp2_with fail;go_loopg [3,4,5] 8 (fun gk u _ z wr=>∃(d:Nat) (x:Int),z=.int .i64 (d:Int)∧d+gk=8∧u=.int .i64 x∧([0,1,3,7,15,15,15,15,15]:List Int)[d]?=some x∧w=wr)
  case atStart=>exact⟨0,0,rfl,rfl,rfl,rfl,rfl⟩
  case round=>
   obtain⟨d,x,rfl,D,rfl,t,rfl⟩:=hrel;obtain⟨d',s⟩:∃d',d'=d+1:=⟨_,rfl⟩;have:d=0∨d=1∨d=2∨d=3∨d=4∨d=5∨d=6∨d=7∨d=8:=(by omega);rcases this with rfl|rfl|rfl|rfl|rfl|rfl|rfl|rfl|rfl
   all_goals
    simp at t
    subst t
    go_wp2_with fail
    first
     |(go_roundg (gk-1)
       case rel=>exact⟨d',_,(by rw[s];rfl),(by omega),rfl,(by rw[s];decide +kernel),rfl⟩
       case measure=>omega)
     |(go_ret;exact⟨rfl,rfl⟩)
end Go.Proofs.YtafkamlhimkbmaaGreat
