/-
  The walk of store.Sweep.
-/
import Derived.Test.YtafkamlhimkbmaaGreatPSoundP
import Derived.Maps.OwnIn
import Derived.Lib.SlicesDelete
import Derived.Shelf.RegionOpenPlain
import Derived.Sort.EncStr
namespace Go.Proofs.YtafkamlhimkbmaaGreat
set_option maxRecDepth 1000000
set_option maxHeartbeats 8000000
set_option linter.unusedSimpArgs false
set_option linter.unusedVariables false
open Go.RowKit Go.Shelf

attribute [local go_sem] Oper.semAt_some

theorem _root_.Go.World.ownsMap.keepUpd {G:Nat→Prop}{H:Type}{P:Program}{k:TypeId}{R:Value→Option (DataW H×List MemPlace)}{w j:World}{b n:Nat}{D:DataW H}(h:w.ownsMap P k R b n D)(z:ae G w j)(t:¬G b):j.ownsMap P k R b n D:=by
 obtain⟨es,q,j,s⟩:=h;exact⟨es,q,(z.block b (Array.getElem?_eq_some_iff.1 j).1 t).trans j,s⟩

theorem rz {F:Nat→Prop}{w:World}{q:Nat}{M:St}(h:ag F w q M)(a:Option Addr)(len cap:Nat)(es:List Edge)(bn:fO w a len es)(el:len≤1048576) :
  Calls Tryz.prog 101 #[.pointer (some ⟨q,0,none⟩),.slice a len cap] w fun e w'=>e=.returned (.int .i64 ((di M (es.map Edge.to)).length:Int))∧ae F w w'∧ag (au F w w') w' q (cM M (es.map Edge.to)):=by
 have cx:=Lib.hid (nj h a len cap es bn el)
 have av:=Lib.hid h
 have el:=h.lt _ h.own
 obtain⟨S,ib,a',bb,d9,el⟩:∃S ib,w.cell? ⟨q,1,none⟩=some (.pointer (some ⟨S,0,none⟩))∧w.cell? ⟨q,2,none⟩=some (.pointer (some ⟨ib,0,none⟩))∧Hid (∃a7,cO a7 w S M.cs M.gone M.len M.room)∧M.cs.length≤1048576:=by
  obtain⟨⟨S,ib,ts,a7,c',br,a5,_⟩,_⟩:=h;exact⟨S,ib,by rw[cell_of_row w q 1 _ _ _ br];rfl,by rw[cell_of_row w q 2 _ _ _ br];rfl,Lib.hid ⟨a7,a5⟩,a5.bx⟩
 obtain⟨e3,hi,e0,e1,e2⟩:=info_parts kC
 clear h bn
 refine(callsIn_wide (n:=3)).1 ?_
 refine callsIn_of_wp_marks Tryz.func101 rfl trivial ?_ rfl
 simp only[Tryz.ntmps101,List.size_toArray,List.length_cons,List.length_nil,Nat.reduceAdd,Nat.reduceSub,Array.replicate_succ,Array.replicate_zero,List.push_toArray,List.append_toArray,List.nil_append,List.cons_append]
 gi_wp2_with fail
 refine⟨trivial,?_⟩
 refine(callsIn_wide.2 cx.out).mono ?_
 rintro e w1 ⟨b,N,rfl,cx,cb,el,a3,bn⟩
 have d3:=Lib.hid cx
 have dr:=Lib.hid bn
 have a':=bn.cell a'
 have bb:=bn.cell bb
 have el:=bn.size
 have el:q<w1.heap.size:=by omega
 clear cx bn
 gi_wp2_with fail
 refine⟨trivial,?_⟩
 refine(callsIn_wide.2 (sL S _)).mono ?_
 rintro e z ⟨rfl,bi,am⟩
 gi_wp2_with fail
 rename_i bn cj
 simp only[World.size_alloc]at bi
 have bn:w1.heap.size+1+1<z.heap.size:=by have:=aD bi;simpa using this
 have ek:aa w z:=((dr.out.alloc _).alloc _).trans am
 have c7:z.cell? ⟨w1.heap.size,0,none⟩=some (.map (some b)):=am.cell (by simp)
 have c8:z.cell? ⟨w1.heap.size+1,0,none⟩=some (.slice none 0 0):=am.cell (by simp)
 have c9:z.frozen? ⟨w1.heap.size+1,0,none⟩=false:=(Below.frozen (p:=⟨w1.heap.size+1,0,none⟩) am (by simp)).trans (by simp[go_sem])
 have c2:=((cb.alloc (.cells #[.map (some b)] 187)).alloc (.cells #[.slice none 0 0] 88)).kept am.none (by simp)
 have bn:b<w1.heap.size:=by obtain⟨_,_,bn,_⟩:=cb;exact(Array.getElem?_eq_some_iff.1 bn).1
 have a':=((a' |> fun h=>(show aa w1 z from(((aa.refl w1).alloc _).alloc _).trans am).cell h))
 have bb:=((bb |> fun h=>(show aa w1 z from(((aa.refl w1).alloc _).alloc _).trans am).cell h))
 clear cb
 refine CL (xs:=bS M.cs) (c:=0) (St:=fun t=>aa w t∧t.cell? ⟨w1.heap.size+1+1,0,none⟩=some (.pointer (some ⟨S,0,none⟩)))
  (gf:=209) (lb:=#[.pointer (some ⟨w1.heap.size+1+1,0,none⟩)]) rfl wg
  ?iter
  (fun pre t=>(aa w t∧t.cell? ⟨w1.heap.size+1+1,0,none⟩=some (.pointer (some ⟨S,0,none⟩)))∧t.cell? ⟨w1.heap.size,0,none⟩=some (.map (some b)) ∧
    t.ownsMap Tryz.prog 50 (plainElem (H:=Unit) Tryz.prog 3) b N.length (dE N) ∧
    (∃a cap,t.cell? ⟨w1.heap.size+1,0,none⟩=some (.slice a (pre.filter (fun x=>!decide (x∈N))).length cap)∧t.ownsRow (z.heap.size+2) 50 1 (.slice a (pre.filter (fun x=>!decide (x∈N))).length cap) (pre.filter (fun x=>!decide (x∈N))).length ((pre.filter (fun x=>!decide (x∈N))).map (Value.int .u32)))∧t.frozen? ⟨w1.heap.size+1,0,none⟩=false)
  (fun _ _=>False) (fun p t am=>am.1) ?abide (fun _ _ _ h _=>h) ⟨⟨ek,bi⟩,c7,c2,⟨none,0,c8,World.ownsRow_nil _ _ _ _⟩,c9⟩
  (fun x=>{ tmps:=#[.pointer (some ⟨q,0,none⟩),.slice a len cap,undef,undef,.int .i64 0,.pointer (some ⟨w1.heap.size,0,none⟩),.pointer (some ⟨w1.heap.size+1,0,none⟩),.int .u32 x,undef,undef,undef,undef,.pointer (some ⟨q,0,none⟩),.bool false,.pointer (some ⟨q,0,none⟩),.slice a len cap,.map (some b),.pointer (some ⟨q,0,none⟩),.pointer (some ⟨q,0,none⟩),.pointer (some ⟨q,1,none⟩),.pointer (some ⟨S,0,none⟩),.func (.func 209) #[] #[.pointer (some ⟨w1.heap.size+1+1,0,none⟩)],.int .u32 x,undef,undef,undef,undef,undef,undef,undef,undef,undef,undef,undef,undef,undef,undef,undef,undef,undef,undef,undef,undef,undef,undef,undef,undef,undef,undef,undef,undef,undef,undef,undef,undef,undef,undef,undef,undef,undef,undef,undef],defers:=[] })
  ?assign ?body ?done ?stop
 case iter=>
  obtain⟨a7,am⟩:=d9.out;exact v7 (fun t S=>⟨am.U S.1,S.2⟩)
 case abide=>
  rintro p t S ⟨⟨A,J⟩,Y,Z,⟨a,cap,K,L⟩,a2⟩ S;have a3:∀k,k<z.heap.size→¬(z.heap.size≤k∧k<z.heap.size+(0+2)):=fun k s W=>by omega
  refine⟨⟨A.new S (fun k s=>by omega),S.cellAt (a3 _ (by omega)) J⟩,S.cellAt (a3 _ (by omega)) Y,Z.keepUpd S (a3 _ (by omega)),⟨a,cap,S.cellAt (a3 _ (by omega)) K,S.br (fun k s W=>?_) L⟩,(World.frozen?_of_block (a:=⟨w1.heap.size+1,0,none⟩) (S.block (w1.heap.size+1) (aD K) (a3 (w1.heap.size+1) (by omega)))).trans a2⟩;rcases L.2 with⟨I,_⟩|⟨a1,be,b8,I,bx,_⟩
  ·rw[I]at s;simp[Value.ownBlock]at s
  ·rw[I]at s;simp[Value.ownBlock]at s;omega
 case assign=>
  intro l' m x t cn ab;gi_wp2
  exact ab
 case body=>
  rintro l' m pre x t ⟨⟨A,J⟩,Y,Z,⟨U,X,K,L⟩,a2⟩ b2 S;have c5:x∈bS M.cs:=b2.subset (by simp)
  obtain⟨S,am⟩:2≤x∧x-2<(M.cs.length:Int):=by
   have:=kA.1 c5;cases b1:look M.cs x with
   |none=>exact absurd b1 this
   |some r=>have:=bL b1;omega
  have eS:(Lit.int .u32 x).wf=true:=by simp[Lit.wf,show IntKind.u32.min=0 from rfl,show IntKind.u32.max=4294967295 from rfl];omega
  have ee:=Maps.keyOf_int_mk Tryz.underlying50 eS;obtain⟨j,T⟩:∃j,j=pre.filter (fun x=>!decide (x∈N)):=⟨_,rfl⟩
  have cy:(pre++[x]).filter (fun x=>!decide (x∈N))=j++(if x∈N then []else [x]):=by
   rw[List.filter_append,←T];by_cases O:x∈N<;>simp[O]
  have S:j.length+1≤1048576:=by
   have cp:j.length≤pre.length:=(by rw[T];exact List.length_filter_le _ _);have cq:=b2.length_le
   have d7:(bS M.cs).length≤M.cs.length:=by
    unfold bS;rw[pw];exact List.length_filter_le _ _
   simp at cq;omega
  rw[←T]at K L;have bt:=Lib.hid cy;have S:=Lib.hid b2;clear cy b2 T c5;have ca:=aD K;have en:=aD Y;dsimp only at ca en
  have ch:∀k,Value.ownBlock (.slice U j.length X)=some k→z.heap.size+2≤k:=fun k s=>by
   rcases L.2 with⟨I,_⟩|⟨a1,be,b8,I,bx,_⟩
   ·rw[I]at s;simp[Value.ownBlock]at s
   ·rw[I]at s;simp[Value.ownBlock]at s;omega
  have er:j.length+1≤maxLen:=by unfold maxLen;omega
  have et:(j.length+1)*4≤140737488355328:=by omega
  obtain⟨c,S,bw,-⟩:=Z.lookup_int (Maps.int_keyed Tryz.underlying50) Tryz.underlying187 Tryz.underlying3 (sm _) ee;have cl:=Lib.hid Z;clear Z;by_cases O:x∈N
  ·rw[qe O]at bw;cases bw;gi_wp2
   refine⟨fun k _ _=>rfl,Nat.le_refl _,⟨A,J⟩,Y,cl.out,⟨U,X,?_,?_⟩,a2⟩
   ·rw[bt.out,if_pos O,List.append_nil];exact K
   ·rw[bt.out,if_pos O,List.append_nil];exact L
  ·rw[qf O]at bw;cases bw;have bs:=Lib.hid L
   gi_wp2_with (first
    |(gi_at_builtin;refine wpListIn_append_own _ rfl _ _ 88 rfl (z.heap.size+2) 50 e3 (.int .u32 0) 1 4 Tryz.underlying88 hi e0 e1 e2 rfl (by decide) (.slice U j.length X) j.length (j.map (Value.int .u32)) rfl (bs.out.alloc _) ⟨t.heap.size,0,none⟩ 1 1 [.int .u32 x] rfl rfl (cell_one_new _ _ _) (by simp[Value.oneCell']) (by exact er) (by exact et) (by simp;omega) ?_;intro e5 a6 cd ec _;obtain⟨a1,be,rfl⟩:=ownsRow_succ cd;obtain⟨ev,d5,d8⟩:=tQ ec ch (by omega) K a2)
    |fail)
   have N:z.heap.size+2≤a1:=by
    rcases cd.2 with⟨I,_⟩|⟨cv,cap2,b8,I,bx,_⟩
    ·simp at I
    ·simp at I;omega
   have a4:ae (fun k=>Value.ownBlock (.slice U j.length X)=some k∨k=w1.heap.size+1) t (a6.setCell ⟨w1.heap.size+1,0,none⟩ (.slice (some ⟨a1,0,none⟩) (j.length+1) be)):=
    ae.setCell (F:=fun k=>Value.ownBlock (.slice U j.length X)=some k∨k=w1.heap.size+1) (ev.mono (fun k _ s=>Or.inl s)) (p:=⟨w1.heap.size+1,0,none⟩) (.inl (Or.inr rfl)) _
   have ew:ae (fun k=>k=w1.heap.size+1) a6 (a6.setCell ⟨w1.heap.size+1,0,none⟩ (.slice (some ⟨a1,0,none⟩) (j.length+1) be)):=
    ae.setCell (F:=fun k=>k=w1.heap.size+1) (ae.refl _ a6) (p:=⟨w1.heap.size+1,0,none⟩) (.inl rfl) _
   have b0:∀k,k<z.heap.size+2→k≠w1.heap.size+1→¬(Value.ownBlock (.slice U j.length X)=some k∨k=w1.heap.size+1):=fun k br a5 W=>by
    rcases W with W|W;·have:=ch _ W;omega
    ·exact a5 W
   refine⟨fun k br a5=>a4.block k (by omega) (b0 k (by omega) (by omega)),a4.size,⟨A.new a4 (fun k s=>?_),a4.cellAt (b0 _ (by omega) (by omega)) J⟩,a4.cellAt (b0 _ (by omega) (by omega)) Y,cl.out.keepUpd a4 (b0 b (by omega) (by omega)),⟨some ⟨a1,0,none⟩,be,?_,?_⟩,?_⟩
   ·rcases s with s|s;·have:=ch _ s;omega
    ·omega
   ·rw[bt.out,if_neg O,List.length_append];simp[go_sem,d5]
   ·have:=ew.br (fun k s W=>by simp[Value.ownBlock]at s;omega) cd;rw[bt.out,if_neg O,List.length_append,List.map_append];exact this
   ·simp[go_sem,d8]
 case done=>
  rintro t ⟨⟨A,J⟩,Y,Z,⟨U,X,K,L⟩,a2⟩ ab;rw[vJ d3.out]at K L;obtain⟨j,T⟩:∃j,j=di M (es.map Edge.to):=⟨_,rfl⟩;rw[←T]at K L
  have N:j.length≤1048576:=by
   have cp:j.length≤(bS M.cs).length:=by rw[T];exact List.length_filter_le _ _
   have d7:(bS M.cs).length≤M.cs.length:=by
    unfold bS;rw[pw];exact List.length_filter_le _ _
   omega
  obtain⟨b7,c6,c4⟩:=(av.out.U A).hB j;have d2:=Lib.hid c4;have dj:=Lib.hid A;have b5:=Lib.hid ab;have bs:=Lib.hid L;have bv:=Lib.hid T;have N:=A.size;have ep:=aD K;dsimp only at ep;clear A J Y Z c4 T L a2 ab c2 c7 c8 c9 a' bb bi;have cS:∀E,w.heap.size≤E→¬F E:=fun E ad L=>by have:=av.out.lt _ L;omega
  have c3:∀E id,j[E]?=some id→∃g,U=some ⟨g,0,none⟩∧z.heap.size+2≤g∧t.cell? ⟨g,E,none⟩=some (.int .u32 id):=by
   intro E id ad;have L:=(List.getElem?_eq_some_iff.1 ad).1;rcases bs.out.2 with⟨I,L⟩|⟨cv,cap2,b8,I,bx,_⟩
   ·omega
   ·cases I;refine⟨cv,rfl,bx,?_⟩;rw[bs.out.cellAt E (by omega)];simp[ad]
  have d0:=Lib.hid c3;have b6:=Lib.hid cS
  have I:∀x∈j,look M.cs x≠none∧2≤x∧x-2<(M.cs.length:Int):=fun x bq=>by
   rw[bv.out]at bq;exact⟨(jx.1 bq).1,mo bq⟩
  have ci:=Lib.hid I;have L:j.Nodup:=by rw[bv.out];exact ph _ _
  have dB:=Lib.hid L;clear c3 cS I L;refine cj _ _ (wpIn_wide.2 ?_);clear cj;go_wp2_with fail
  go_loopg [33] j.length (fun gk v wr=>∃k:Nat,k+gk=j.length∧v=.int .i64 (k:Int)∧dU F t wr q b7 c6 M j k k)
  case atStart=>exact⟨0,by omega,rfl,d2.out⟩
  case round=>
   obtain⟨k,s,rfl,hS⟩:=hrel;have aw:=Lib.hid hS;have cg:=Lib.hid hS.av;have s:=hS.av.size;clear hS;by_cases ca:k<j.length
   ·obtain⟨id,hid⟩:∃id,j[k]?=some id:=⟨_,List.getElem?_eq_getElem ca⟩;obtain⟨g,rfl,t,s⟩:=d0.out k id hid;have t:wr.cell? ⟨g,k,none⟩=some (.int .u32 id):=cg.out.cellAt (b6.out g (by omega)) s;obtain⟨cD,ed,s⟩:=ci.out id (List.mem_of_getElem? hid)
    obtain⟨r,ce⟩:∃r,look M.cs id=some r:=by
     cases b1:look M.cs id with
     |none=>exact absurd b1 cD
     |some r=>exact⟨r,rfl⟩
    have cf:∀x∈j.take k,2≤x:=fun x bq=>(ci.out x (List.mem_of_mem_take bq)).2.1
    have c0:id∉j.take k:=by
     intro O;obtain⟨E,ad⟩:=List.getElem?_of_mem O
     have s:E<k:=by
      have:=(List.getElem?_eq_some_iff.1 ad).1;rw[List.length_take]at this;omega
     rw[List.getElem?_take_of_lt s]at ad;have A:=List.getElem?_eq_some_iff.1 ad;have J:=List.getElem?_eq_some_iff.1 hid;have:=(List.getElem_inj (h₀:=A.1) (h₁:=J.1) dB.out).1 (by rw[A.2,J.2]);omega
    have bp:look (cZ M.cs (j.take k)) id=some r:=by rw[mJ cf,if_neg c0,ce]
    have c1:∀b3 i E,look (cZ M.cs (j.take k)) i=some b3→look (cZ M.cs (j.take k)) E=some b3→i=E:=by
     intro b3 i E A J;rw[mJ cf]at A J;split at A;·cases A
     ·split at J;·cases J
      ·exact av.out.b2 b3 i E A J
    have eu:r.ok:=av.out.b1 ce
    have em:1≤M.len-k:=by
     obtain⟨ts,a7,c',br,a5,s,e4,_⟩:=aw.out.a4;obtain⟨i,s⟩:=(e4 r id).2 bp;have:=kT s;omega
    have db:=Lib.hid (fun(a8:World) (bg:aa wr a8)=>(aw.out.U bg).get (by omega) bp);have dk:=Lib.hid (fun(a8:World) (bg:aa wr a8)=>(aw.out.U bg).ho hid ed eu bp c1);have co:wr.cell? ⟨q,1,none⟩=some (.pointer (some ⟨b7,0,none⟩)):=(by rw[cell_of_row wr q 1 _ _ _ aw.out.head];rfl);have d6:wr.cell? ⟨q,2,none⟩=some (.pointer (some ⟨c6,0,none⟩)):=(by rw[cell_of_row wr q 2 _ _ _ aw.out.head];rfl);have ds:=Lib.hid bp;have dl:=Lib.hid hid;clear bp hid c1 cf c0 ce cD;have s:q<wr.heap.size:=aD co;go_wp2_with fail
    refine(db.out _ (by(exact kp))).mono ?_;rintro e a6 ⟨rfl,s⟩;have cp:=s.cell co;have cq:=s.cell d6;have t:=s.size;have s:q<a6.heap.size:=(by omega);go_wp2_with fail
    refine jg 6 #[true,true,true,true,true,true,false] (by kernel_rfl) (by kernel_rfl) ?_;simp only[List.take_succ_cons,List.take_zero,List.drop_succ_cons,List.drop_zero];repeat still_step
    refine wpStill_nil ?_;refine wpAny_ready (fuel:=0) (rs:=[6]) (by kernel_rfl) (by decide) (AllReady.cons rfl (fun cn ab=>?_) AllReady.nil);go_simp;refine(dk.out _ (by(exact kp))).mono ?_;rintro e b4 ⟨rfl,b9⟩;refine ab _ _ ?_;clear ab cn;refine wpAny_done (by kernel_rfl) ?_ _;have da:=Lib.hid (fun(a8:World) (bg:aa b4 a8)=>(b9.U bg).hg dl.out ds.out em);have d4:b4.cell? ⟨q,1,none⟩=some (.pointer (some ⟨b7,0,none⟩)):=(by rw[cell_of_row b4 q 1 _ _ _ b9.head];rfl);have s:q<b4.heap.size:=aD d4;clear b9;go_wp2_with fail
    refine(da.out _ (by(exact kp))).mono ?_;rintro e q ⟨rfl,q⟩;have d1:=Lib.hid q;clear q;go_wp2
    go_roundg (gk-1)
    case rel=>exact⟨k+1,by omega,by simp,d1.out⟩
    case measure=>omega
   ·have bi:wr.cell? ⟨w1.heap.size+1,0,none⟩=some (.slice U j.length X):=cg.out.cellAt (b6.out _ (by omega)) K;have eg:k=j.length:=(by omega);subst eg;have ea:wr.heap[z.heap.size]?=some (.deferred (some [])):=(cg.out.block _ (Array.getElem?_eq_some_iff.1 b5.out).1 (b6.out _ (by omega))).trans b5.out;have eb:=(Array.getElem?_eq_some_iff.1 b5.out).1;go_wp2
    refine⟨by simp,.inl ⟨_,_,rfl,run_takeDeferred ea,?_⟩⟩;have eR:ae (fun k=>k=z.heap.size) wr (wr.putObj z.heap.size (.deferred none)):=ae.putObj (F:=fun k=>k=z.heap.size) (ae.refl _ wr) (.inl rfl) _;have hS:=aw.out;rw[bv.out]at hS;refine⟨_,results_tmp rfl _ _ _,by rw[bv.out];rfl,hS.done av.out.wf dj.out av.out.lt (by omega) eb eR⟩
 case stop=>exact fun _ _ _ h _=>h.elim

open Go.RowKit Go.Sort Go.Lib

abbrev dK:Int→Value:=fun x=>Value.int .i64 x

theorem uS (s off cap i j:Nat)(d:Array Int)(w:World)(A:Holds dK w s off d)(a2:d.size≤cap)(a4:cap≤9223372036854775807)(a3:i<j)(Z:j≤d.size) :
  Calls Tryz.prog 104 #[.slice (some ⟨s,off,none⟩) d.size cap,.int .i64 i,.int .i64 j] w fun e w'=>e=.returned (.slice (some ⟨s,off,none⟩) (d.size-(j-i)) cap)∧∃U,w'=putRow dK (Sort.ahead w U) s off (d.toList.take i++d.toList.drop j++List.replicate (j-i) 0).toArray:=by
 obtain⟨am,X,U,ad,a2⟩:=info_parts ij
 have Y:i≤j:=by omega
 -- the cells that are moved to the left
 obtain⟨news,J⟩:∃news,news=(d.toList.drop j).map dK:=⟨_,rfl⟩
 have I:news.length=d.size-j:=by rw[J];simp
 have S:∀q,q<d.size-j→news[q]?=some (dK d[j+q]!):=by
  intro q E;rw[J,List.getElem?_map,List.getElem?_drop,Array.getElem?_toList,getElem!_pos d (j+q) (by omega),Array.getElem?_eq_getElem (by omega)];rfl
 obtain⟨K,U,ab⟩:∃K:Addr,(if cap=j then some (⟨s,off,none⟩:Addr)else some ⟨s,off+j,none⟩)=some K∧Hid (∀q u,news[q]?=some u→w.drew.cell? (K.add q)=some u):=by
  by_cases h:cap=j
  ·refine⟨⟨s,off,none⟩,by simp[h],fun q u z=>?_⟩;have U:news.length=0:=(by rw[I];omega);rw[List.length_eq_zero_iff.1 U]at z;simp at z
  ·refine⟨⟨s,off+j,none⟩,by simp[h],fun q u z=>?_⟩
   have E:q<d.size-j:=by
    have:=(List.getElem?_eq_some_iff.1 z).1;rwa[I]at this
   rw[S q E]at z;rw[Addr.add_lit,show off+j+q=off+(j+q) by omega];exact(A (j+q) (by omega)).1.trans z
 have av:Hid (news.length=(d.size-j)*1):=by rw[Nat.mul_one];exact I
 have aw:Hid (∀u∈news,u.oneCell'=true):=by
  intro u z;rw[J]at z;obtain⟨x,_,rfl⟩:=List.mem_map.1 z;rfl
 have a1:Hid (∀q,q<news.length→(w.drew.cell? ⟨s,off+i*1+q,none⟩).isSome=true∧w.drew.frozen? ⟨s,off+i*1+q,none⟩=false):=by
  intro q E;rw[I]at E;rw[Nat.mul_one,Nat.add_assoc];exact⟨by show(w.cell? _).isSome=true;rw[(A (i+q) (by omega)).1];rfl,(A (i+q) (by omega)).2⟩
 -- the world behind the append, behind a name
 obtain⟨t,N⟩:∃t,t=w.drew.setCells s (off+i*1) news:=⟨_,rfl⟩
 have O:t=putRow dK (Sort.ahead w 1) s off (lay d i (d.toList.drop j)):=by
  rw[N,J,Nat.mul_one,←putRow_setCells dK (Sort.ahead w 1) s off _ d i (by simp;omega),putRow_self dK (Sort.ahead w 1) s off d (holds_ahead dK w 1 s off d A)];rfl
 have L:Holds dK t s off (lay d i (d.toList.drop j)):=by rw[O];exact holds_putRow dK _ s off d _ (holds_ahead dK w 1 s off d A) (lay_size _ _ _)
 have z:∀z,(Builtin.clear_ #[22] z #[.slice (some ⟨s,off+(i+(d.size-j)),none⟩) (d.size-(i+(d.size-j))) (cap-(i+(d.size-j)))]).run Tryz.prog t=.ok (.tuple #[]) (t.setCells s (off+(i+(d.size-j))) (List.replicate (d.size-(i+(d.size-j))) (dK 0))):=
  fun z=>Lib.run_clear_slice t _ _ z _ Tryz.underlying22 Tryz.zeroValue3 rfl rfl s (off+(i+(d.size-j))) _ _ (by omega) (fun q E=>by rw[show off+(i+(d.size-j))+q=off+(i+(d.size-j)+q) by omega,(L _ (by rw[lay_size];omega)).1];rfl) (fun q E=>by rw[show off+(i+(d.size-j))+q=off+(i+(d.size-j)+q) by omega];exact(L _ (by rw[lay_size];omega)).2)
 have T:Aside (t=putRow dK (Sort.ahead w 1) s off (lay d i (d.toList.drop j))):=O
 have W:Hid (t=w.drew.setCells s (off+i*1) news):=N
 have q:i≤cap:=by omega
 have q:j≤cap:=by omega
 clear N O L A S J I
 go_enter Tryz.func104,Tryz.ntmps104
 go_wp2_with fail
 go_region_law (refine step_append_room rfl (.tmp 22) (.tmp 25) 22 rfl 3 am 1 Tryz.underlying22 X ad s off i cap (by simp[Act.eval,Act.put]) K (d.size-j) (cap-j) news (by simp[Act.eval,Act.put]) av.out ab.out aw.out (by omega) a1.out ?_;rw[←W.out])
 go_wp2
 go_ret
 refine⟨by rw[show d.size-(j-i)=i+(d.size-j) by omega];rfl,1,?_⟩
 rw[←delete_arr d i j 0 Y Z,←putRow_setCells dK _ s off _ _ (i+(d.size-j)) (by rw[lay_size];simp;omega),←T.out,List.map_replicate,show d.size-(i+(d.size-j))=j-i by omega]

def gZ (w:World)(g:Nat)(xs:List Int):Prop:=∀(i:Nat) (x:Int),xs[i]?=some x→w.cell? ⟨g,i,none⟩=some (.int .i64 x)∧w.frozen? ⟨g,i,none⟩=false

theorem gZ.a5 {G:Nat→Prop}{w w':World}{g:Nat}{xs:List Int}(h:gZ w g xs)(q:ae G w w')(z:g<w.heap.size)(j:¬G g):gZ w' g xs:=fun i x A=>by
 obtain⟨s,t⟩:=h i x A;exact⟨q.cellAt j s,q.frozen z j t⟩

theorem uT (g cap i:Nat)(xs:List Int)(w:World)(h:gZ w g xs)(t:g<w.heap.size)(I:xs.length≤cap)(J:cap≤1048576)(hi:i<xs.length) :
  Calls Tryz.prog 104 #[.slice (some ⟨g,0,none⟩) xs.length cap,.int .i64 (i:Int),.int .i64 ((i+1:Nat):Int)] w fun e w'=>e=.returned (.slice (some ⟨g,0,none⟩) (xs.length-1) cap)∧gZ w' g (xs.eraseIdx i)∧ae (fun j=>j=g) w w':=by
 have s:Holds dK w g 0 xs.toArray:=fun j t=>by
  have J:j<xs.length:=by simpa using t
  rw[Nat.zero_add,getElem!_pos _ j t,List.getElem_toArray];exact h j _ (List.getElem?_eq_getElem J)
 have:=uS g 0 cap i (i+1) xs.toArray w s (by simpa using I) (by omega) (by omega) (by simp;omega)
 rw[List.size_toArray,show i+1-i=1 by omega]at this
 refine this.mono ?_
 rintro e w' ⟨rfl,A,rfl⟩
 have E:=holds_putRow dK (Sort.ahead w A) g 0 xs.toArray (xs.take i++xs.drop (i+1)++List.replicate 1 0).toArray (holds_ahead dK w A g 0 _ s) (by simp;omega)
 refine⟨rfl,fun j x q=>?_,?_⟩
 ·have s:=(List.getElem?_eq_some_iff.1 q).1;rw[List.length_eraseIdx,if_pos hi]at s;have z:j<(xs.take i++xs.drop (i+1)++List.replicate 1 0).toArray.size:=by simp;omega
  have:=E j z;rw[Nat.zero_add,getElem!_pos _ j z,List.getElem_toArray]at this;rw[List.eraseIdx_eq_take_drop_succ]at q;have K:(xs.take i++xs.drop (i+1)++List.replicate 1 (0:Int))[j]?=some x:=by rw[List.getElem?_append_left (by simp;omega)];exact q
  rw[(List.getElem?_eq_some_iff.1 K).2]at this;exact this
 ·refine⟨rfl,rfl,rfl,by rw[size_putRow];exact Nat.le_refl _,fun k q j=>?_⟩;show(w.heap.modify g _)[k]?=w.heap[k]?;rw[Array.getElem?_modify,if_neg (fun e=>j e.symm)]

open Go.RowKit Go.Sort

theorem zq {F:Nat→Prop}{w:World}{bb:Nat}{M:St}(h:ag F w bb M)(a:Option Addr)(len cap:Nat)(es:List Edge)(a6:fO w a len es)(b9:len≤1048576)(cv:(aQ M.cs (es.map Edge.to)).length≤12) :
  Calls Tryz.prog 62 #[.pointer (some ⟨bb,0,none⟩),.slice a len cap] w fun e w'=>
   ∃v,e=.returned v∧iF w' v (aQ M.cs (es.map Edge.to))∧aa w w'∧∀g,v.ownBlock=some g→w.heap.size≤g:=by
 have bq:=Lib.hid (nj h a len cap es a6 b9)
 have bb:=Lib.hid h
 obtain⟨cq,hi,cn,co,cp⟩:=info_parts kC
 clear h a6
 go_enter Tryz.func62,Tryz.ntmps62
 go_wp2_with fail
 refine bq.out.mono ?_
 rintro e w1 ⟨b,q,rfl,a6,be,b9,bq,bb⟩
 have E:=Lib.hid a6
 have a4:=Lib.hid bb
 clear a6 bb
 go_wp2_with (first
  |(at_range;refine wpList_range_own _ rfl _ 187 rfl 50 3 (Maps.int_keyed Tryz.underlying50) Tryz.underlying187 _ b q.length _ rfl be ?_;intro w0 ce I a6)
  |fail)
 go_frame
 have cj:=be.size_le
 have cf:w0.ownsRow w.heap.size 50 1 (.slice none 0 0) 0 []:=World.ownsRow_nil _ _ _ _
 have bs:=Lib.hid (show aa w w0 from a4.out.trans ⟨I.os,I.tape,I.output,I.size,fun i hi=>I.block i hi (by simp)⟩)
 go_loopg [5] (Maps.size (dE q)) (fun gk v wr=>∃(left:Lit→Bool) (ids:List Int),wr.ranges Tryz.prog 50 (plainElem (H:=Unit) Tryz.prog 3) b w1.heap.size q.length (dE q) left gk ∧
  wr.ownsRow w.heap.size 50 1 v ids.length (ids.map (Value.int .u32))∧fq q left ids∧ids.length+gk≤q.length∧(ids=[]→v=.slice none 0 0)∧aa w wr)
 case atStart=>exact⟨_,[],ce,cf,fq.start q,by simpa using cj,fun _=>rfl,bs.out⟩
 case round=>
  obtain⟨left,ids,am,K,I,bb,a6,j⟩:=hrel;have bv:=Lib.hid a6;clear a6;have a3:=Lib.hid I;have S:=Lib.hid j;clear I j;obtain⟨N,s,rfl,I⟩:=eO K
  go_wp2_with (first
   |(at_next;refine wpList_next_ranges_ii _ rfl _ rfl 50 3 .u32 .i64 (Maps.int_keyed Tryz.underlying50) Tryz.underlying50 Tryz.underlying3 b w1.heap.size q.length _ _ _ rfl am ?_ ?_)
   |fail)
  ·intro I I;have ad:=a3.out.perm E.out.b2 I;rcases K.2 with⟨t,I⟩|⟨g,b1,T,t,a8,X,ab,a6,W,cl⟩
   ·have b3:ids=[]:=List.length_eq_zero_iff.1 I;subst b3;cases t;have I:q=[]:=by have:=ad.length_eq;exact List.length_eq_zero_iff.1 (by simpa using this.symm)
    have b4:aQ M.cs (es.map Edge.to)=[]:=by
     rw[List.eq_nil_iff_forall_not_mem];intro y a6;have:=(E.out.e8 y).2 (eL.1 a6);rw[I]at this;simp at this
    go_wp2_with (go_at_call 112;refine(rm _).mono ?_;rintro e O ⟨rfl,rfl⟩)
    go_ret
    refine⟨_,rfl,?_,S.out,fun g X=>by simp[Value.ownBlock]at X⟩;rw[b4];exact⟨none,0,rfl,by simp⟩
   ·cases t
    have b5:bh wr g s ids.toArray:=by
     refine⟨T,X,by omega,by simpa using ab,fun z J=>?_⟩;have b7:z<ids.length:=(by simpa using J);have U:(T.toList.take (ids.length*1))[z]?=(ids.map (Value.int .u32))[z]?:=(by rw[cl]);rw[List.getElem?_take_of_lt (by omega),Array.getElem?_toList]at U;rw[U,getElem!_pos ids.toArray z J];simp[b7]
    have cd:0<ids.length:=by
     rcases Nat.eq_zero_or_pos ids.length with a1|a1
     ·have:=bv.out (List.length_eq_zero_iff.1 a1);cases this
     ·exact a1
    have b8:ids.length≤12:=by
     have U:ids.length=_:=ad.length_eq;have I:=((List.perm_ext_iff_of_nodup E.out.b2 (jN (iX M.cs (es.map Edge.to)))).2 (fun x=>(E.out.e8 x).trans eL.symm)).length_eq;omega
    have bx:=Lib.hid (AG g s ids.length ids.toArray wr b5 (by simp) cd b8);go_wp2_with fail
    refine bx.out.mono ?_;rintro e O ⟨rfl,d',bg,ci,av⟩;have Z:aa w O:=S.out.new av.av (fun k j=>by subst j;exact a8);have a':=rn (d:=ids.toArray) (d':=d') E.out (by simpa using ad) (by simpa using bg) (by simpa using ci)
    have ca:(aQ M.cs (es.map Edge.to)).length=ids.length:=by
     rw[←a',Array.length_toList,bg.1];simp
    have cg:=av.row;clear av;go_wp2
    go_ret
    refine⟨.slice (some ⟨g,0,none⟩) ids.length s,rfl,⟨some ⟨g,0,none⟩,s,by rw[ca],fun z x aw=>⟨g,rfl,?_⟩⟩,Z,fun E b6=>by simp[Value.ownBlock]at b6;omega⟩;rw[←a',Array.getElem?_toList]at aw;have J:=(Array.getElem?_eq_some_iff.1 aw).1;rw[cg.cell z J,getElem!_pos d' z J,(Array.getElem?_eq_some_iff.1 aw).2]
  ·intro x c bp b2 z z cb a7 bi z L ch z;have bn:x∈q:=(kM q x).1 (Maps.has_true_of_atKey a7)
   have a2:∀k,Value.ownBlock (.slice N ids.length s)=some k→k≠w1.heap.size∧k≠b:=by
    intro k j;obtain⟨cs,W⟩:=bM K j;obtain⟨q,z⟩:=qI am;exact⟨fun e=>q _ _ _ (by rw[←e];exact W),fun e=>z _ _ _ (by rw[←e];exact W)⟩
   have Y:aa w bp:=S.out.new (ae.e0 L) (fun k j=>by subst j;exact a4.out.size);have q:bp.ownsRow w.heap.size 50 1 (.slice N ids.length s) ids.length (ids.map (Value.int .u32)):=(ae.e0 L).br (fun k j=>(a2 k j).1) K;have bt:=Lib.hid Y;have a5:=Lib.hid q;have br:=Lib.hid bi;have b0:=Lib.hid bn;have z:=Y.size;have z:=Lib.hid L;clear Y q K am bi bn a7 L
   go_wp2_with (first
    |(at_builtin;refine wpList_append_own _ rfl _ _ 88 rfl w.heap.size 50 cq (.int .u32 0) 1 4 Tryz.underlying88 hi cn co cp rfl (by decide) (.slice N ids.length s) ids.length (ids.map (Value.int .u32)) rfl (a5.out.alloc _) ⟨wr.heap.size,0,none⟩ 1 1 [.int .u32 x] rfl rfl (ez _ _ _ _ ch.symm) (by simp[Value.oneCell']) (by unfold maxLen;omega) (by omega) (by simp;omega) ?_;intro E O z q _)
    |fail)
   have bw:=Lib.hid z;have A:=Lib.hid q;clear z q;go_roundg b2
   case rel=>
    have Z:aa w O:=by
     refine aa.new (F:=fun k=>Value.ownBlock (.slice N ids.length s)=some k) (bt.out.alloc (.cells #[.int .u32 x] 50)) ⟨A.out.os,A.out.tape,A.out.output,A.out.size,fun k j ab=>A.out.block k j (fun e=>ab e.symm)⟩ (fun k j=>?_);rcases a5.out.2 with⟨t,_⟩|⟨g,b1,T,t,a8,_⟩
     ·rw[t]at j;simp[Value.ownBlock]at j
     ·rw[t]at j;simp[Value.ownBlock]at j;omega
    refine⟨_,ids++[x],(br.out.alloc _).kept A.out (fun e=>(a2 b e.symm).2 rfl) (fun e=>(a2 _ e.symm).1 rfl),?_,a3.out.step b0.out cb,by simp;omega,fun h=>by simp at h,Z⟩;simpa using bw.out
   case measure=>omega

end Go.Proofs.YtafkamlhimkbmaaGreat
