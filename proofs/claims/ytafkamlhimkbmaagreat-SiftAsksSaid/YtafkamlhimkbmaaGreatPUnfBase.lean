/-
  Texts: the digits, the tags; the same tables; no 1 in a table.
-/
import Derived.Test.YtafkamlhimkbmaaGreatPRightA
import Derived.Laws.BytesArg
import Derived.Maps.AppendAt
namespace Go.Proofs.YtafkamlhimkbmaaGreat
set_option maxRecDepth 1000000
set_option maxHeartbeats 8000000
set_option linter.unusedSimpArgs false
set_option linter.unusedVariables false
open Go.RowKit
def bQ (k:Int):ByteArray:=strOfNums [48+k]
def bE:List Bool→Bool
 |[]=>true
 |b::j=>!b&&bE j
def bN:List Bool→List Bool→Bool
 |[],[]=>true
 |a::j,b::q=>decide (a=b)&&bN j q
 |_,_=>false
theorem gi:∀{j q:List Bool},bN j q=true↔j=q
 |[],[]=>by simp[bN]
 |a::j,b::q=>by simp[bN,gi]
 |[],b::q=>by simp[bN]
 |a::j,[]=>by simp[bN]
def bR (f:Int)(M:St):Nat→Edge→ByteArray
 |0,_=>⟨#[63]⟩
 |n+1,e=>
  if f=5 then
   if e.to=0 then⟨#[48]⟩else if e.to=1 then bQ e.tag++⟨#[64]⟩++⟨#[49]⟩
   else bQ e.tag++⟨#[64]⟩++⟨#[40]⟩++bQ (aA (look M.cs e.to)).I++⟨#[32]⟩++bR f M n (aA (look M.cs e.to)).lo++⟨#[32]⟩++bR f M n (aA (look M.cs e.to)).hi++⟨#[41]⟩
  else if e.to<2 then bQ e.to
  else if f=3∨f=4 then⟨#[40]⟩++bQ (aA (look M.cs e.to)).I++⟨#[58]⟩++bQ (aA (look M.cs e.to)).J++⟨#[32]⟩++bR f M n (aA (look M.cs e.to)).lo++⟨#[32]⟩++bR f M n (aA (look M.cs e.to)).hi++⟨#[41]⟩
  else⟨#[40]⟩++bQ (aA (look M.cs e.to)).I++⟨#[32]⟩++bR f M n (aA (look M.cs e.to)).lo++⟨#[32]⟩++bR f M n (aA (look M.cs e.to)).hi++⟨#[41]⟩
theorem Dw {F:Nat→Prop}{w:World}{sb:Nat}{M:St}(h:ak F w sb M)(v:Edge)(l:Int)(Z:v.ok) :
  Calls Tryz.prog 153 #[.pointer (some ⟨sb,0,none⟩),.agg #[.int .u8 v.tag,.int .u32 v.to],.int .i64 l] w fun r w'=>r=.returned (.bool (aZ M 5 v l))∧ae w w':=by
 have bp:=aa h.wf
 have a':=aa (fun(id:Int) (r:Rec) (bb:look M.cs id=some r)=>h.b0 bb)
 have bb:=h.wf.bw
 have bb:=h.bx
 have bg:=kx h.wf h.bx [v.to]
 have a7:=aa (fun(j:World) (s:ae w j) (id:Int) (hid:id≤4294967295)=>gI (h.ad s) id hid)
 have B:=fun(j:World) (s:ae w j)=>dF (h.ad s) 5 v l Z
 have a8:=aa (fun(j:World) (s:ae w j) (b:Nat) (cap:Nat) (bb:fu j (some ⟨b,0,none⟩) 1 [v])=>mL (h.ad s) (some ⟨b,0,none⟩) 1 cap [v] bb (by omega))
 clear h
 rcases cr (M.leads 5 v l)with t|t
 ·rw[t]at B;have S:=aa B;have a6:=aa (kD t);clear B t;go_enter Tryz.func153,Tryz.ntmps153;go_wp2_with (first|(go_at_call 134;refine(S.out _ kp).mono ?_;rintro e w1 ⟨rfl,z⟩)|fail)
  go_ret;exact⟨by rw[a6.out];rfl,kp⟩
 ·rw[t]at B;have S:=aa B;have a4:=aa t;clear B t;go_enter Tryz.func153,Tryz.ntmps153;go_wp2_with (first|(go_at_call 134;refine(S.out _ kp).mono ?_;rintro e w1 ⟨rfl,z⟩;have br:w1.cell? ⟨w.heap.size,0,none⟩=some (.int .u8 v.tag):=z.cell (by simp);have bs:w1.cell? ⟨w.heap.size,1,none⟩=some (.int .u32 v.to):=z.cell (by simp);have bd:ae w w1:=kp)|fail)
  refine(a8.out _ kp _ _ (j9 Z (by simp[go_sem]) (by simp[go_sem]))).mono ?_;rintro e ab ⟨bq,rfl,Y,be⟩;obtain⟨ids,L⟩:∃ids,ids=aU M.cs [v.to]:=⟨_,rfl⟩;have Y:iw ab bq ids:=by rw[L];exact Y
  rw[←L]at bg;obtain⟨a,cap,rfl,t⟩:=Y;have J:=aa L;have a5:=aa t;have A:=aa (show ae w ab from kp);clear L t be z bd br bs Z;go_wp2_with fail;go_loopg [21] ids.length (fun gk t wr=>∃d:Nat,d+gk=ids.length∧t=.int .i64 (d:Int)∧ae ab wr∧∀(i:Nat) (id:Int),i<d→ids[i]?=some id→aI M 5 (aA (look M.cs id))=false)
  case atStart=>exact⟨0,by omega,rfl,ae.refl _,fun i id hi=>absurd hi (by omega)⟩
  case round=>
   obtain⟨d,bt,rfl,z,t⟩:=hrel;have q:=aa z;have al:=aa t;clear z t;by_cases bi:d<ids.length
   ·obtain⟨id,hid⟩:∃id,ids[d]?=some id:=⟨_,ar bi⟩;obtain⟨g,rfl,aw⟩:=a5.out d id hid;have t:=q.out.cell aw;have ad:=aa hid;obtain⟨x,I,W,t,z⟩:=ky bp.out (d:=d) (id:=id) (es:=[v.to]) (by rw[←J.out];exact hid);have t:=W.tb;have t:=W.bn;have N:=a'.out id x I;have tok:0≤x.I:=N.I.1;have t:0≤x.J:=N.J.1;have t:=N.lo.2.2;have t:=aa I;have bf:ae w wr:=A.out.trans q.out
    have a0:Hid (aI M 5 (aA (look M.cs id))=false→∀(i:Nat) (t:Int),i<d+1→ids[i]?=some t→aI M 5 (aA (look M.cs t))=false):=aa (fun X i t hi E=>by
     by_cases hid:i<d;·exact al.out i t hid E
     ·obtain rfl:i=d:=(by omega);rw[ad.out]at E;cases E
      exact X)
    have bn:Hid (aI M 5 (aA (look M.cs id))=true→aZ M 5 v l=false):=aa (fun X=>kB (d:=d) (id:=id) (by rw[←J.out];exact ad.out) X);clear hid aw N
    have O:Hid (∀j,ae w j→Calls Tryz.prog 78 #[.pointer (some ⟨sb,0,none⟩),.int .u32 id] j fun e w'=>e=.returned (.tuple #[.agg #[.int .u8 x.al,.int .u8 x.I,.int .u8 x.J,.int .u8 x.lo.tag,.int .u32 x.lo.to,.int .u8 x.hi.tag,.int .u32 x.hi.to],.bool true])∧ae j w'):=
     aa (fun j s=>by have:=a7.out j s id (by omega);rw[I]at this;exact this)
    have a1:aI M 5 (aA (look M.cs id))=(decide (x.hi.to=0)&&decide (x.lo.tag=x.I+1)):=(by rw[I];rfl);have T:=aa a1;clear a1;clear I bf W;by_cases U:x.hi.to=0
    ·by_cases am:x.lo.tag=x.I+1
     ·go_wp2_with (first|(go_at_call 78;refine(O.out _ (A.out.trans q.out)).mono ?_;rintro e a3 ⟨rfl,av⟩)|fail)
      go_ret;exact⟨by rw[bn.out (by rw[T.out];simp[U,am])];rfl,by have:=A.out;have:=q.out;(exact kp)⟩
     ·go_wp2_with (first|(go_at_call 78;refine(O.out _ (A.out.trans q.out)).mono ?_;rintro e a3 ⟨rfl,av⟩)|fail)
      go_roundg (gk-1)
      case rel=>exact⟨d+1,by omega,by simp,by have:=q.out;(exact kp),a0.out (by rw[T.out];simp[U,am])⟩
      case measure=>omega
    ·go_wp2_with (first|(go_at_call 78;refine(O.out _ (A.out.trans q.out)).mono ?_;rintro e a3 ⟨rfl,av⟩)|fail)
     go_roundg (gk-1)
     case rel=>exact⟨d+1,by omega,by simp,by have:=q.out;(exact kp),a0.out (by rw[T.out];simp[U])⟩
     case measure=>omega
   ·go_wp2;go_ret;have j:d=ids.length:=(by omega);refine⟨by rw[kC a4.out (fun i id hi E=>al.out i id (by rw[←J.out]at hi;omega) (by rw[J.out];exact E))];rfl,A.out.trans q.out⟩
theorem wJ {F:Nat→Prop}{w:World}{sb:Nat}{M:St}(h:ak F w sb M)(v:Edge)(l:Int)(a6:v.ok) :
  Calls Tryz.prog 151 #[.pointer (some ⟨sb,0,none⟩),.agg #[.int .u8 v.tag,.int .u32 v.to],.int .i64 l] w fun r w'=>r=.returned (.bool (aZ M 3 v l))∧ae w w':=by
 have b4:=aa h.wf
 have bv:=aa (fun(id:Int) (r:Rec) (bw:look M.cs id=some r)=>h.b0 bw)
 have bw:=h.wf.bw
 have bw:=h.bx
 have b0:=kx h.wf h.bx [v.to]
 have ad:=aa (fun(s:World) (t:ae w s) (id:Int) (hid:id≤4294967295)=>gI (h.ad t) id hid)
 have S:=fun(s:World) (t:ae w s)=>dF (h.ad t) 3 v l a6
 have bt:=aa (fun(s:World) (t:ae w s) (b:Nat) (cap:Nat) (bw:fu s (some ⟨b,0,none⟩) 1 [v])=>mL (h.ad t) (some ⟨b,0,none⟩) 1 cap [v] bw (by omega))
 clear h
 rcases cr (M.leads 3 v l)with I|I
 ·rw[I]at S;have am:=aa S;have bs:=aa (kD I);clear S I;go_enter Tryz.func151,Tryz.ntmps151;go_wp2_with (first|(go_at_call 134;refine(am.out _ kp).mono ?_;rintro e w1 ⟨rfl,J⟩)|fail)
  go_ret;exact⟨by rw[bs.out];rfl,kp⟩
 ·rw[I]at S;have am:=aa S;have bp:=aa I;clear S I;go_enter Tryz.func151,Tryz.ntmps151;go_wp2_with (first|(go_at_call 134;refine(am.out _ kp).mono ?_;rintro e w1 ⟨rfl,J⟩;have b8:w1.cell? ⟨w.heap.size,0,none⟩=some (.int .u8 v.tag):=J.cell (by simp);have b9:w1.cell? ⟨w.heap.size,1,none⟩=some (.int .u32 v.to):=J.cell (by simp);have bx:ae w w1:=kp)|fail)
  refine(bt.out _ kp _ _ (j9 a6 (by simp[go_sem]) (by simp[go_sem]))).mono ?_;rintro e be ⟨b7,rfl,a4,bD⟩;obtain⟨ids,Y⟩:∃ids,ids=aU M.cs [v.to]:=⟨_,rfl⟩;have a4:iw be b7 ids:=by rw[Y];exact a4
  rw[←Y]at b0;obtain⟨a,cap,rfl,I⟩:=a4;have X:=aa Y;have bq:=aa I;have al:=aa (show ae w be from kp);clear Y I bD J bx b8 b9 a6;go_wp2_with fail;go_loopg [23] ids.length (fun gk I wr=>∃d:Nat,d+gk=ids.length∧I=.int .i64 (d:Int)∧ae be wr∧∀(i:Nat) (id:Int),i<d→ids[i]?=some id→aI M 3 (aA (look M.cs id))=false)
  case atStart=>exact⟨0,by omega,rfl,ae.refl _,fun i id hi=>absurd hi (by omega)⟩
  case round=>
   obtain⟨d,ca,rfl,J,I⟩:=hrel;have E:=aa J;have bg:=aa I;clear J I;by_cases b1:d<ids.length
   ·obtain⟨id,hid⟩:∃id,ids[d]?=some id:=⟨_,ar b1⟩;obtain⟨g,rfl,bi⟩:=bq.out d id hid;have I:=E.out.cell bi;have bf:=aa hid;obtain⟨x,N,aw,I,J⟩:=ky b4.out (d:=d) (id:=id) (es:=[v.to]) (by rw[←X.out];exact hid);have I:=aw.tb;have I:=aw.bn;have ab:=bv.out id x N;have tok:0≤x.I:=ab.I.1;have I:0≤x.J:=ab.J.1;have bn:=ab.lo.2.2;have I:=aa N;have Z:ae w wr:=al.out.trans E.out
    have a3:Hid (aI M 3 (aA (look M.cs id))=false→∀(i:Nat) (I:Int),i<d+1→ids[i]?=some I→aI M 3 (aA (look M.cs I))=false):=aa (fun a1 i I hi U=>by
     by_cases hid:i<d;·exact bg.out i I hid U
     ·obtain rfl:i=d:=(by omega);rw[bf.out]at U;cases U
      exact a1)
    have b3:Hid (aI M 3 (aA (look M.cs id))=true→aZ M 3 v l=false):=aa (fun a1=>kB (d:=d) (id:=id) (by rw[←X.out];exact bf.out) a1);clear hid bi ab
    have W:Hid (∀s,ae w s→Calls Tryz.prog 78 #[.pointer (some ⟨sb,0,none⟩),.int .u32 id] s fun e w'=>e=.returned (.tuple #[.agg #[.int .u8 x.al,.int .u8 x.I,.int .u8 x.J,.int .u8 x.lo.tag,.int .u32 x.lo.to,.int .u8 x.hi.tag,.int .u32 x.hi.to],.bool true])∧ae s w'):=
     aa (fun s t=>by have:=ad.out s t id (by omega);rw[N]at this;exact this)
    have b5:Hid (look M.cs x.lo.to=none→aI M 3 (aA (look M.cs id))=false):=aa (fun A=>by rw[N];show(match look M.cs x.lo.to with|none=>false|some I=>_)=false;rw[A]);have b6:Hid (∀y,look M.cs x.lo.to=some y→aI M 3 (aA (look M.cs id))=(decide (y.I=x.J+1)&&decide (y.hi=x.hi))):=aa (fun y A=>by rw[N];show(match look M.cs x.lo.to with|none=>false|some I=>_)=_;rw[A];rfl);clear aw;cases A:look M.cs x.lo.to with
    |none=>
     have T:Hid (∀s,ae w s→Calls Tryz.prog 78 #[.pointer (some ⟨sb,0,none⟩),.int .u32 x.lo.to] s fun e w'=>e=.returned (.tuple #[.agg #[.int .u8 Rec.zero.al,.int .u8 Rec.zero.I,.int .u8 Rec.zero.J,.int .u8 Rec.zero.lo.tag,.int .u32 Rec.zero.lo.to,.int .u8 Rec.zero.hi.tag,.int .u32 Rec.zero.hi.to],.bool false])∧ae s w'):=
      aa (fun s t=>by have:=ad.out s t x.lo.to bn;rw[A]at this;exact this)
     have z:=aa (b5.out A);clear N A
     (go_wp2_with fail
      refine(W.out _ Z).mono ?_
      rintro e q ⟨rfl,a0⟩
      go_wp2_with fail
      refine(T.out _ kp).mono ?_
      rintro e O ⟨rfl,j⟩
      have a7:=j.U (a:=⟨q.heap.size,2,none⟩) (v:=.int .u8 x.J)
      have a8:=j.U (a:=⟨q.heap.size,3,none⟩) (v:=.int .u8 x.lo.tag)
      have a':=j.U (a:=⟨q.heap.size,4,none⟩) (v:=.int .u32 x.lo.to)
      have bb:=j.U (a:=⟨q.heap.size,5,none⟩) (v:=.int .u8 x.hi.tag)
      have bd:=j.U (a:=⟨q.heap.size,6,none⟩) (v:=.int .u32 x.hi.to)
      have L:=j.size
      simp only[ai]at L
      have a5:q.heap.size<O.heap.size:=by omega
      go_wp2_with fail)
     go_roundg (gk-1)
     case rel=>exact⟨d+1,by omega,by simp,by have:=E.out;(exact kp),a3.out (by exact z.out)⟩
     case measure=>omega
    |some y=>
     have T:Hid (∀s,ae w s→Calls Tryz.prog 78 #[.pointer (some ⟨sb,0,none⟩),.int .u32 x.lo.to] s fun e w'=>e=.returned (.tuple #[.agg #[.int .u8 y.al,.int .u8 y.I,.int .u8 y.J,.int .u8 y.lo.tag,.int .u32 y.lo.to,.int .u8 y.hi.tag,.int .u32 y.hi.to],.bool true])∧ae s w'):=
      aa (fun s t=>by have:=ad.out s t x.lo.to bn;rw[A]at this;exact this)
     have z:=aa (b6.out y A);clear N A;by_cases av:y.I=x.J+1
     ·by_cases B:y.hi=x.hi
      ·have b2:=ja y.hi x.hi B;have z:Hid (aI M 3 (aA (look M.cs id))=true):=aa (by rw[z.out];simp[av,B]);have br:=aa B;clear B
       (go_wp2_with fail
        refine(W.out _ Z).mono ?_
        rintro e q ⟨rfl,a0⟩
        go_wp2_with fail
        refine(T.out _ kp).mono ?_
        rintro e O ⟨rfl,j⟩
        have a7:=j.U (a:=⟨q.heap.size,2,none⟩) (v:=.int .u8 x.J)
        have a8:=j.U (a:=⟨q.heap.size,3,none⟩) (v:=.int .u8 x.lo.tag)
        have a':=j.U (a:=⟨q.heap.size,4,none⟩) (v:=.int .u32 x.lo.to)
        have bb:=j.U (a:=⟨q.heap.size,5,none⟩) (v:=.int .u8 x.hi.tag)
        have bd:=j.U (a:=⟨q.heap.size,6,none⟩) (v:=.int .u32 x.hi.to)
        have L:=j.size
        simp only[ai]at L
        have a5:q.heap.size<O.heap.size:=by omega
        go_wp2_with fail)
       go_ret;exact⟨by rw[b3.out (by exact z.out)];rfl,by have:=al.out;have:=E.out;(exact kp)⟩
      ·have b2:=ij y.hi x.hi B;have z:Hid (aI M 3 (aA (look M.cs id))=false):=aa (by rw[z.out];simp[av,B]);have br:=aa B;clear B
       (go_wp2_with fail
        refine(W.out _ Z).mono ?_
        rintro e q ⟨rfl,a0⟩
        go_wp2_with fail
        refine(T.out _ kp).mono ?_
        rintro e O ⟨rfl,j⟩
        have a7:=j.U (a:=⟨q.heap.size,2,none⟩) (v:=.int .u8 x.J)
        have a8:=j.U (a:=⟨q.heap.size,3,none⟩) (v:=.int .u8 x.lo.tag)
        have a':=j.U (a:=⟨q.heap.size,4,none⟩) (v:=.int .u32 x.lo.to)
        have bb:=j.U (a:=⟨q.heap.size,5,none⟩) (v:=.int .u8 x.hi.tag)
        have bd:=j.U (a:=⟨q.heap.size,6,none⟩) (v:=.int .u32 x.hi.to)
        have L:=j.size
        simp only[ai]at L
        have a5:q.heap.size<O.heap.size:=by omega
        go_wp2_with fail)
       go_roundg (gk-1)
       case rel=>exact⟨d+1,by omega,by simp,by have:=E.out;(exact kp),a3.out (by exact z.out)⟩
       case measure=>omega
     ·have z:Hid (aI M 3 (aA (look M.cs id))=false):=aa (by rw[z.out];simp[av])
      (go_wp2_with fail
       refine(W.out _ Z).mono ?_
       rintro e q ⟨rfl,a0⟩
       go_wp2_with fail
       refine(T.out _ kp).mono ?_
       rintro e O ⟨rfl,j⟩
       have a7:=j.U (a:=⟨q.heap.size,2,none⟩) (v:=.int .u8 x.J)
       have a8:=j.U (a:=⟨q.heap.size,3,none⟩) (v:=.int .u8 x.lo.tag)
       have a':=j.U (a:=⟨q.heap.size,4,none⟩) (v:=.int .u32 x.lo.to)
       have bb:=j.U (a:=⟨q.heap.size,5,none⟩) (v:=.int .u8 x.hi.tag)
       have bd:=j.U (a:=⟨q.heap.size,6,none⟩) (v:=.int .u32 x.hi.to)
       have L:=j.size
       simp only[ai]at L
       have a5:q.heap.size<O.heap.size:=by omega
       go_wp2_with fail)
      go_roundg (gk-1)
      case rel=>exact⟨d+1,by omega,by simp,by have:=E.out;(exact kp),a3.out (by exact z.out)⟩
      case measure=>omega
   ·go_wp2;go_ret;have j:d=ids.length:=(by omega);refine⟨by rw[kC bp.out (fun i id hi U=>bg.out i id (by rw[←X.out]at hi;omega) (by rw[X.out];exact U))];rfl,al.out.trans E.out⟩
theorem Bo {F:Nat→Prop}{w:World}{mb:Nat}{M:St}{bg:List (Int×Rec)}(h:aV F w mb M bg)(v:Edge)(l:Int)(a7:v.ok) :
  Calls Tryz.prog 85 #[.pointer (some ⟨mb,0,none⟩),.agg #[.int .u8 v.tag,.int .u32 v.to],.int .i64 l] w fun r w'=>r=.returned (.bool (aZ M 3 v l))∧ae w w':=by
 have cj:=aa h.wf
 have b6:=aa (fun(id:Int) (r:Rec) (cc:look M.cs id=some r)=>h.b0 _ ((h.mem id r).2 cc))
 have cc:=h.wf.bw
 have cc:=h.bx
 have cf:=kx h.wf h.bx [v.to]
 have W:=aa h
 have ad:=aa (fun(j:World) (B:ae w j) (id:Int)=>ir (h.ad B) id)
 have N:=fun(j:World) (B:ae w j)=>kA (h.ad B) 3 v l a7
 have b5:=aa (fun(j:World) (B:ae w j) (b:Nat) (cap:Nat) (cc:fu j (some ⟨b,0,none⟩) 1 [v])=>mM (h.ad B) (some ⟨b,0,none⟩) 1 cap [v] cc (by omega))
 clear h
 rcases cr (M.leads 3 v l)with E|E
 ·rw[E]at N;have am:=aa N;have b4:=aa (kD E);clear N E;go_enter Tryz.func85,Tryz.ntmps85;go_wp2_with (first|(go_at_call 141;refine(am.out _ kp).mono ?_;rintro e w1 ⟨rfl,I⟩)|fail)
  go_ret;exact⟨by rw[b4.out];rfl,kp⟩
 ·rw[E]at N;have am:=aa N;have b1:=aa E;clear N E;go_enter Tryz.func85,Tryz.ntmps85;go_wp2_with (first|(go_at_call 141;refine(am.out _ kp).mono ?_;rintro e w1 ⟨rfl,I⟩;have c':w1.cell? ⟨w.heap.size,0,none⟩=some (.int .u8 v.tag):=I.cell (by simp);have da:w1.cell? ⟨w.heap.size,1,none⟩=some (.int .u32 v.to):=I.cell (by simp);have cd:ae w w1:=kp)|fail)
  refine(b5.out _ kp _ _ (j9 a7 (by simp[go_sem]) (by simp[go_sem]))).mono ?_;rintro e a' ⟨c9,rfl,a6,ce⟩;obtain⟨ids,Y⟩:∃ids,ids=aU M.cs [v.to]:=⟨_,rfl⟩;have a6:iw a' c9 ids:=by rw[Y];exact a6
  rw[←Y]at cf;obtain⟨a,cap,rfl,E⟩:=a6;have U:=aa Y;have b2:=aa E;have al:=aa (show ae w a' from kp);clear Y E ce I cd c' da a7;go_wp2_with fail;go_loopg [8] ids.length (fun gk E wr=>∃d:Nat,d+gk=ids.length∧E=.int .i64 (d:Int)∧ae a' wr∧∀(i:Nat) (id:Int),i<d→ids[i]?=some id→aI M 3 (aA (look M.cs id))=false)
  case atStart=>exact⟨0,by omega,rfl,ae.refl _,fun i id hi=>absurd hi (by omega)⟩
  case round=>
   obtain⟨d,db,rfl,I,E⟩:=hrel;have A:=aa I;have bf:=aa E;clear I E;by_cases cg:d<ids.length
   ·obtain⟨id,hid⟩:∃id,ids[d]?=some id:=⟨_,ar cg⟩;obtain⟨g,rfl,br⟩:=b2.out d id hid;have bi:=A.out.cell br;have bd:=aa hid;obtain⟨x,J,aw,E,I⟩:=ky cj.out (d:=d) (id:=id) (es:=[v.to]) (by rw[←U.out];exact hid);have E:=aw.tb;have E:=aw.bn;have ab:=b6.out id x J;have tok:0≤x.I:=ab.I.1;have E:0≤x.J:=ab.J.1;have E:=ab.lo.2.2;have E:=aa J;have Z:ae w wr:=al.out.trans A.out
    have a4:Hid (aI M 3 (aA (look M.cs id))=false→∀(i:Nat) (E:Int),i<d+1→ids[i]?=some E→aI M 3 (aA (look M.cs E))=false):=aa (fun a0 i E hi T=>by
     by_cases hid:i<d;·exact bf.out i E hid T
     ·obtain rfl:i=d:=(by omega);rw[bd.out]at T;cases T
      exact a0)
    have ci:Hid (aI M 3 (aA (look M.cs id))=true→aZ M 3 v l=false):=aa (fun a0=>kB (d:=d) (id:=id) (by rw[←U.out];exact bd.out) a0);clear hid br ab;rcases fM W.out id with⟨I,bt,D,bn,ch,E,bq⟩|⟨bs,_,_⟩
    case inr=>rw[J]at bs;cases bs
    rw[J]at bt;cases bt;obtain⟨lb,co,a8,E,I,bw,cy,cD,cE,cS,c0,c1⟩:=(W.out.ad Z).et bn
    have b0:Hid (∀j,ae w j→Calls Tryz.prog 88 #[.pointer (some ⟨mb,0,none⟩),.int .u32 id] j fun e w'=>e=.returned (.int .i64 (D:Int))∧j=w'):=
     aa (fun j B=>by have:=ad.out j B id;rw[bq]at this;exact this)
    have cl:Hid (look M.cs x.lo.to=none→aI M 3 (aA (look M.cs id))=false):=aa (fun t=>by rw[J];show(match look M.cs x.lo.to with|none=>false|some j=>_)=false;rw[t]);have cn:Hid (∀y,look M.cs x.lo.to=some y→aI M 3 (aA (look M.cs id))=(decide (y.I=x.J+1)&&decide (y.hi=x.hi))):=aa (fun y t=>by rw[J];show(match look M.cs x.lo.to with|none=>false|some j=>_)=_;rw[t];rfl);have be:=aa Z;clear J ch bn aw Z bq;go_upto_region 7 with fail
    go_cut [9] (fun B j=>∃s,B=.pointer (some ⟨s,0,none⟩)∧(j.cell? ⟨s,0,none⟩=some (.int .u8 x.al)∧j.cell? ⟨s,1,none⟩=some (.int .u8 x.I)∧j.cell? ⟨s,2,none⟩=some (.int .u8 x.J)∧j.cell? ⟨s,3,none⟩=some (.int .u8 x.lo.tag)∧j.cell? ⟨s,4,none⟩=some (.int .u32 x.lo.to)∧j.cell? ⟨s,5,none⟩=some (.int .u8 x.hi.tag)∧j.cell? ⟨s,6,none⟩=some (.int .u32 x.hi.to))∧ae wr j)
    case first=>
     have cp:=aB a8;have cv:=aB bw;have cx:=aB bi;dsimp only at cp cv cx;have j:wr.heap.size≠mb:=(by omega);have j:wr.heap.size≠lb:=(by omega);have j:wr.heap.size≠g:=(by omega);go_region_held3 (fun w'=>w'.cell? ⟨mb,0,none⟩=some (.slice (some ⟨lb,0,none⟩) bg.length co)∧w'.cell? ⟨g,d,none⟩=some (.int .u32 id)∧w'.cell? ⟨lb,D*8+1,none⟩=some (.int .u8 x.al)∧w'.cell? ⟨lb,D*8+2,none⟩=some (.int .u8 x.I)∧w'.cell? ⟨lb,D*8+3,none⟩=some (.int .u8 x.J)∧w'.cell? ⟨lb,D*8+4,none⟩=some (.int .u8 x.lo.tag)∧w'.cell? ⟨lb,D*8+5,none⟩=some (.int .u32 x.lo.to)∧w'.cell? ⟨lb,D*8+6,none⟩=some (.int .u8 x.hi.tag)∧w'.cell? ⟨lb,D*8+7,none⟩=some (.int .u32 x.hi.to)) (go_keep) ((first|(go_at_call 88;have Z:=be.out;refine(b0.out _ kp).mono ?_;rintro e w' ⟨rfl,rfl⟩)))
     all_goals(try go_wp2_with fail)
     all_goals go_meet
     all_goals exact⟨_,rfl,⟨by simp[go_sem],by simp[go_sem],by simp[go_sem],by simp[go_sem],by simp[go_sem],by simp[go_sem],by simp[go_sem]⟩,kp⟩
    case rest=>
     obtain⟨s,rfl,⟨B,E,b7,b8,b9,ca,cb⟩,j⟩:=hcut;have L:=aa j;clear j;have a3:ae w wc:=be.out.trans L.out;have bv:=L.out.cell a8;clear a8 bw cy cD cE cS c0 c1 B E bi;rcases fM W.out x.lo.to with⟨y,t,bD,bp,a5,j,S⟩|⟨t,a5,S⟩
     case inr=>
      have O:Hid (Calls Tryz.prog 88 #[.pointer (some ⟨mb,0,none⟩),.int .u32 x.lo.to] wc fun e w'=>e=.returned (.int .i64 (-1))∧wc=w'):=aa (by have:=ad.out wc a3 x.lo.to;rw[S]at this;exact this);have q:=aa (cl.out t);clear a5 S t;go_wp2_with (first|(go_at_call 88;refine O.out.mono ?_;rintro e w' ⟨rfl,rfl⟩)|fail)
      refine cU wc (by kernel_rfl) (by kernel_rfl) (ae.refl _) ?_
      (repeat (go_big_quiet_step (fail)))
      refine wpQuiet_nil ?_;rintro bb ⟨⟨_,a1⟩,rfl⟩;try dsimp only
      go_wp2_with fail;go_roundg (gk-1)
      case rel=>exact⟨d+1,by omega,by simp,by have:=A.out;have:=L.out;(exact kp),a4.out (by exact q.out)⟩
      case measure=>omega
     case inl=>
      have O:Hid (Calls Tryz.prog 88 #[.pointer (some ⟨mb,0,none⟩),.int .u32 x.lo.to] wc fun e w'=>e=.returned (.int .i64 (bD:Int))∧wc=w'):=aa (by have:=ad.out wc a3 x.lo.to;rw[S]at this;exact this);have q:=aa (cn.out y t);obtain⟨j,s,bx,B,E,c2,c3,c4,c5,c6,c7,c8⟩:=(W.out.ad a3).et bp;rw[bv]at bx;cases bx;clear a5 S t bp c2 c4 c5 c6;have j:=an.cell bv;have j:=an.cell b7;have j:=an.cell b8;have j:=an.cell b9;have j:=an.cell ca;have j:=an.cell cb;have j:=an.cell c3;have j:=an.cell c7;have j:=an.cell c8;by_cases X:y.I=x.J+1
      ·by_cases z:y.hi=x.hi
       ·have q:Hid (aI M 3 (aA (look M.cs id))=true):=aa (by rw[q.out];simp[X,z]);have av:=aa (xd y.hi x.hi z);have b3:=aa z;clear z;go_wp2_with (first|(go_at_call 88;refine O.out.mono ?_;rintro e w' ⟨rfl,rfl⟩)|fail)
        refine cU wc (by kernel_rfl) (by kernel_rfl) (ae.refl _) ?_
        (repeat (go_big_quiet_step ((go_at_call 143;with_reducible refine Calls.b1 (av.out _)))))
        refine wpQuiet_nil ?_;rintro bb ⟨⟨_,a1⟩,rfl⟩;try dsimp only
        go_wp2_with fail;go_ret;exact⟨by rw[ci.out (by exact q.out)];rfl,by have:=al.out;have:=A.out;have:=L.out;(exact kp)⟩
       ·have q:Hid (aI M 3 (aA (look M.cs id))=false):=aa (by rw[q.out];simp[X,z]);have av:=aa (xc y.hi x.hi z);have b3:=aa z;clear z;go_wp2_with (first|(go_at_call 88;refine O.out.mono ?_;rintro e w' ⟨rfl,rfl⟩)|fail)
        refine cU wc (by kernel_rfl) (by kernel_rfl) (ae.refl _) ?_
        (repeat (go_big_quiet_step ((go_at_call 143;with_reducible refine Calls.b1 (av.out _)))))
        refine wpQuiet_nil ?_;rintro bb ⟨⟨_,a1⟩,rfl⟩;try dsimp only
        go_wp2_with fail;go_roundg (gk-1)
        case rel=>exact⟨d+1,by omega,by simp,by have:=A.out;have:=L.out;(exact kp),a4.out (by exact q.out)⟩
        case measure=>omega
      ·have q:Hid (aI M 3 (aA (look M.cs id))=false):=aa (by rw[q.out];simp[X]);have j:(y.I==x.J+1)=false:=(by simp[X]);go_wp2_with (first|(go_at_call 88;refine O.out.mono ?_;rintro e w' ⟨rfl,rfl⟩)|fail)
       refine cU wc (by kernel_rfl) (by kernel_rfl) (ae.refl _) ?_
       (repeat (go_big_quiet_step (fail)))
       refine wpQuiet_nil ?_;rintro bb ⟨⟨_,a1⟩,rfl⟩;try dsimp only
       go_wp2_with fail;go_roundg (gk-1)
       case rel=>exact⟨d+1,by omega,by simp,by have:=A.out;have:=L.out;(exact kp),a4.out (by exact q.out)⟩
       case measure=>omega
   ·go_wp2;go_ret;have j:d=ids.length:=(by omega);refine⟨by rw[kC b1.out (fun i id hi T=>bf.out i id (by rw[←U.out]at hi;omega) (by rw[U.out];exact T))];rfl,al.out.trans A.out⟩
theorem Bp {F:Nat→Prop}{w:World}{mb:Nat}{M:St}{bi:List (Int×Rec)}(h:aV F w mb M bi)(v:Edge)(l:Int)(a7:v.ok) :
  Calls Tryz.prog 86 #[.pointer (some ⟨mb,0,none⟩),.agg #[.int .u8 v.tag,.int .u32 v.to],.int .i64 l] w fun r w'=>r=.returned (.bool (aZ M 4 v l))∧ae w w':=by
 have cj:=aa h.wf
 have b6:=aa (fun(id:Int) (r:Rec) (cc:look M.cs id=some r)=>h.b0 _ ((h.mem id r).2 cc))
 have cc:=h.wf.bw
 have cc:=h.bx
 have cf:=kx h.wf h.bx [v.to]
 have X:=aa h
 have ad:=aa (fun(j:World) (B:ae w j) (id:Int)=>ir (h.ad B) id)
 have N:=fun(j:World) (B:ae w j)=>kA (h.ad B) 4 v l a7
 have b5:=aa (fun(j:World) (B:ae w j) (b:Nat) (cap:Nat) (cc:fu j (some ⟨b,0,none⟩) 1 [v])=>mM (h.ad B) (some ⟨b,0,none⟩) 1 cap [v] cc (by omega))
 clear h
 rcases cr (M.leads 4 v l)with E|E
 ·rw[E]at N;have am:=aa N;have b4:=aa (kD E);clear N E;go_enter Tryz.func86,Tryz.ntmps86;go_wp2_with (first|(go_at_call 141;refine(am.out _ kp).mono ?_;rintro e w1 ⟨rfl,I⟩)|fail)
  go_ret;exact⟨by rw[b4.out];rfl,kp⟩
 ·rw[E]at N;have am:=aa N;have b2:=aa E;clear N E;go_enter Tryz.func86,Tryz.ntmps86;go_wp2_with (first|(go_at_call 141;refine(am.out _ kp).mono ?_;rintro e w1 ⟨rfl,I⟩;have c':w1.cell? ⟨w.heap.size,0,none⟩=some (.int .u8 v.tag):=I.cell (by simp);have da:w1.cell? ⟨w.heap.size,1,none⟩=some (.int .u32 v.to):=I.cell (by simp);have cd:ae w w1:=kp)|fail)
  refine(b5.out _ kp _ _ (j9 a7 (by simp[go_sem]) (by simp[go_sem]))).mono ?_;rintro e a' ⟨c9,rfl,a6,ce⟩;obtain⟨ids,Y⟩:∃ids,ids=aU M.cs [v.to]:=⟨_,rfl⟩;have a6:iw a' c9 ids:=by rw[Y];exact a6
  rw[←Y]at cf;obtain⟨a,cap,rfl,E⟩:=a6;have W:=aa Y;have b3:=aa E;have al:=aa (show ae w a' from kp);clear Y E ce I cd c' da a7;go_wp2_with fail;go_loopg [8] ids.length (fun gk E wr=>∃d:Nat,d+gk=ids.length∧E=.int .i64 (d:Int)∧ae a' wr∧∀(i:Nat) (id:Int),i<d→ids[i]?=some id→aI M 4 (aA (look M.cs id))=false)
  case atStart=>exact⟨0,by omega,rfl,ae.refl _,fun i id hi=>absurd hi (by omega)⟩
  case round=>
   obtain⟨d,db,rfl,I,E⟩:=hrel;have A:=aa I;have bg:=aa E;clear I E;by_cases cg:d<ids.length
   ·obtain⟨id,hid⟩:∃id,ids[d]?=some id:=⟨_,ar cg⟩;obtain⟨g,rfl,bs⟩:=b3.out d id hid;have bn:=A.out.cell bs;have be:=aa hid;obtain⟨x,J,aw,E,I⟩:=ky cj.out (d:=d) (id:=id) (es:=[v.to]) (by rw[←W.out];exact hid);have E:=aw.tb;have E:=aw.bn;have ab:=b6.out id x J;have tok:0≤x.I:=ab.I.1;have E:0≤x.J:=ab.J.1;have E:=ab.lo.2.2;have E:=aa J;have Z:ae w wr:=al.out.trans A.out
    have a4:Hid (aI M 4 (aA (look M.cs id))=false→∀(i:Nat) (E:Int),i<d+1→ids[i]?=some E→aI M 4 (aA (look M.cs E))=false):=aa (fun a0 i E hi U=>by
     by_cases hid:i<d;·exact bg.out i E hid U
     ·obtain rfl:i=d:=(by omega);rw[be.out]at U;cases U
      exact a0)
    have ci:Hid (aI M 4 (aA (look M.cs id))=true→aZ M 4 v l=false):=aa (fun a0=>kB (d:=d) (id:=id) (by rw[←W.out];exact be.out) a0);clear hid bs ab;rcases fM X.out id with⟨I,bv,D,bp,ch,E,br⟩|⟨bt,_,_⟩
    case inr=>rw[J]at bt;cases bt
    rw[J]at bv;cases bv;obtain⟨lb,co,a8,E,I,bx,cy,cD,cE,cS,c0,c1⟩:=(X.out.ad Z).et bp
    have b1:Hid (∀j,ae w j→Calls Tryz.prog 88 #[.pointer (some ⟨mb,0,none⟩),.int .u32 id] j fun e w'=>e=.returned (.int .i64 (D:Int))∧j=w'):=
     aa (fun j B=>by have:=ad.out j B id;rw[br]at this;exact this)
    have cl:Hid (look M.cs x.lo.to=none→aI M 4 (aA (look M.cs id))=false):=aa (fun z=>by rw[J];show(match look M.cs x.lo.to with|none=>false|some j=>_)=false;rw[z]);have cn:Hid (∀y,look M.cs x.lo.to=some y→aI M 4 (aA (look M.cs id))=(decide (y.I=x.J+1)&&decide (x.lo=x.hi))):=aa (fun y z=>by rw[J];show(match look M.cs x.lo.to with|none=>false|some j=>_)=_;rw[z];rfl);have bf:=aa Z;clear J ch bp aw Z br;go_upto_region 7 with fail
    go_cut [9] (fun B j=>∃t,B=.pointer (some ⟨t,0,none⟩)∧(j.cell? ⟨t,0,none⟩=some (.int .u8 x.al)∧j.cell? ⟨t,1,none⟩=some (.int .u8 x.I)∧j.cell? ⟨t,2,none⟩=some (.int .u8 x.J)∧j.cell? ⟨t,3,none⟩=some (.int .u8 x.lo.tag)∧j.cell? ⟨t,4,none⟩=some (.int .u32 x.lo.to)∧j.cell? ⟨t,5,none⟩=some (.int .u8 x.hi.tag)∧j.cell? ⟨t,6,none⟩=some (.int .u32 x.hi.to))∧ae wr j)
    case first=>
     have cp:=aB a8;have cv:=aB bx;have cx:=aB bn;dsimp only at cp cv cx;have j:wr.heap.size≠mb:=(by omega);have j:wr.heap.size≠lb:=(by omega);have j:wr.heap.size≠g:=(by omega);go_region_held3 (fun w'=>w'.cell? ⟨mb,0,none⟩=some (.slice (some ⟨lb,0,none⟩) bi.length co)∧w'.cell? ⟨g,d,none⟩=some (.int .u32 id)∧w'.cell? ⟨lb,D*8+1,none⟩=some (.int .u8 x.al)∧w'.cell? ⟨lb,D*8+2,none⟩=some (.int .u8 x.I)∧w'.cell? ⟨lb,D*8+3,none⟩=some (.int .u8 x.J)∧w'.cell? ⟨lb,D*8+4,none⟩=some (.int .u8 x.lo.tag)∧w'.cell? ⟨lb,D*8+5,none⟩=some (.int .u32 x.lo.to)∧w'.cell? ⟨lb,D*8+6,none⟩=some (.int .u8 x.hi.tag)∧w'.cell? ⟨lb,D*8+7,none⟩=some (.int .u32 x.hi.to)) (go_keep) ((first|(go_at_call 88;have Z:=bf.out;refine(b1.out _ kp).mono ?_;rintro e w' ⟨rfl,rfl⟩)))
     all_goals(try go_wp2_with fail)
     all_goals go_meet
     all_goals exact⟨_,rfl,⟨by simp[go_sem],by simp[go_sem],by simp[go_sem],by simp[go_sem],by simp[go_sem],by simp[go_sem],by simp[go_sem]⟩,kp⟩
    case rest=>
     obtain⟨t,rfl,⟨B,E,b7,b8,b9,ca,cb⟩,j⟩:=hcut;have L:=aa j;clear j;have a3:ae w wc:=bf.out.trans L.out;have bw:=L.out.cell a8;clear a8 bx cy cD cE cS c0 c1 B E bn;rcases fM X.out x.lo.to with⟨y,z,b0,bq,a5,j,T⟩|⟨z,a5,T⟩
     case inr=>
      have O:Hid (Calls Tryz.prog 88 #[.pointer (some ⟨mb,0,none⟩),.int .u32 x.lo.to] wc fun e w'=>e=.returned (.int .i64 (-1))∧wc=w'):=aa (by have:=ad.out wc a3 x.lo.to;rw[T]at this;exact this);have s:=aa (cl.out z);clear a5 T z;go_wp2_with (first|(go_at_call 88;refine O.out.mono ?_;rintro e w' ⟨rfl,rfl⟩)|fail)
      refine cU wc (by kernel_rfl) (by kernel_rfl) (ae.refl _) ?_
      (repeat (go_big_quiet_step (fail)))
      refine wpQuiet_nil ?_;rintro bb ⟨⟨_,a1⟩,rfl⟩;try dsimp only
      go_wp2_with fail;go_roundg (gk-1)
      case rel=>exact⟨d+1,by omega,by simp,by have:=A.out;have:=L.out;(exact kp),a4.out (by exact s.out)⟩
      case measure=>omega
     case inl=>
      have O:Hid (Calls Tryz.prog 88 #[.pointer (some ⟨mb,0,none⟩),.int .u32 x.lo.to] wc fun e w'=>e=.returned (.int .i64 (b0:Int))∧wc=w'):=aa (by have:=ad.out wc a3 x.lo.to;rw[T]at this;exact this);have s:=aa (cn.out y z);obtain⟨j,t,bD,B,E,c2,c3,c4,c5,c6,c7,c8⟩:=(X.out.ad a3).et bq;rw[bw]at bD;cases bD;clear a5 T z bq c2 c4 c5 c6;have j:=an.cell bw;have j:=an.cell b7;have j:=an.cell b8;have j:=an.cell b9;have j:=an.cell ca;have j:=an.cell cb;have j:=an.cell c3;have j:=an.cell c7;have j:=an.cell c8;by_cases q:x.lo=x.hi
      ·by_cases av:y.I=x.J+1
       ·have s:Hid (aI M 4 (aA (look M.cs id))=true):=aa (by rw[s.out];simp[av,q]);have S:=aa (sQ x.lo x.hi q);have bd:=aa q;clear q;go_wp2_with (first|(go_at_call 88;refine O.out.mono ?_;rintro e w' ⟨rfl,rfl⟩)|fail)
        refine cU wc (by kernel_rfl) (by kernel_rfl) (ae.refl _) ?_
        (repeat (go_big_quiet_step ((go_at_call 144;with_reducible refine Calls.b1 (S.out _)))))
        refine wpQuiet_nil ?_;rintro bb ⟨⟨_,a1⟩,rfl⟩;try dsimp only
        go_wp2_with fail;go_ret;exact⟨by rw[ci.out (by exact s.out)];rfl,by have:=al.out;have:=A.out;have:=L.out;(exact kp)⟩
       ·have s:Hid (aI M 4 (aA (look M.cs id))=false):=aa (by rw[s.out];simp[av,q]);have j:(y.I==x.J+1)=false:=(by simp[av]);have S:=aa (sQ x.lo x.hi q);have bd:=aa q;clear q;go_wp2_with (first|(go_at_call 88;refine O.out.mono ?_;rintro e w' ⟨rfl,rfl⟩)|fail)
        refine cU wc (by kernel_rfl) (by kernel_rfl) (ae.refl _) ?_
        (repeat (go_big_quiet_step ((go_at_call 144;with_reducible refine Calls.b1 (S.out _)))))
        refine wpQuiet_nil ?_;rintro bb ⟨⟨_,a1⟩,rfl⟩;try dsimp only
        go_wp2_with fail;go_roundg (gk-1)
        case rel=>exact⟨d+1,by omega,by simp,by have:=A.out;have:=L.out;(exact kp),a4.out (by exact s.out)⟩
        case measure=>omega
      ·have s:Hid (aI M 4 (aA (look M.cs id))=false):=aa (by rw[s.out];simp[q]);have S:=aa (A4 x.lo x.hi q);have bd:=aa q;clear q;go_wp2_with (first|(go_at_call 88;refine O.out.mono ?_;rintro e w' ⟨rfl,rfl⟩)|fail)
       refine cU wc (by kernel_rfl) (by kernel_rfl) (ae.refl _) ?_
       (repeat (go_big_quiet_step ((go_at_call 144;with_reducible refine Calls.b1 (S.out _)))))
       refine wpQuiet_nil ?_;rintro bb ⟨⟨_,a1⟩,rfl⟩;try dsimp only
       go_wp2_with fail;go_roundg (gk-1)
       case rel=>exact⟨d+1,by omega,by simp,by have:=A.out;have:=L.out;(exact kp),a4.out (by exact s.out)⟩
       case measure=>omega
   ·go_wp2;go_ret;have j:d=ids.length:=(by omega);refine⟨by rw[kC b2.out (fun i id hi U=>bg.out i id (by rw[←W.out]at hi;omega) (by rw[W.out];exact U))];rfl,al.out.trans A.out⟩
open Go.RowKit Go.Shelf
attribute [local go_sem] Oper.semAt_some
theorem wk {q s:World}{v u:Value}{j z:Nat}{o:Obj}(t:(q.alloc o).grownBy s v.ownBlock)(J:∀k,v.ownBlock=some k→z≤k)(E:j<z)(A:q.cell? ⟨j,0,none⟩=some u)(B:q.frozen? ⟨j,0,none⟩=false) :
  af (fun k=>v.ownBlock=some k) q s∧s.cell? ⟨j,0,none⟩=some u∧s.frozen? ⟨j,0,none⟩=false:=by
 have I:af (fun k=>v.ownBlock=some k) (q.alloc o) s:=⟨t.os,t.tape,t.output,t.size,fun k E z=>t.block k E (fun e=>z e.symm)⟩
 have t:af (fun k=>v.ownBlock=some k) q s:=((af.refl _ q).alloc o).bg I
 have z:¬(v.ownBlock=some j):=fun q=>by have:=J _ q;omega
 exact⟨t,t.cellAt z A,(World.frozen?_of_block (a:=⟨j,0,none⟩) (t.block j (aB A) z)).trans B⟩
end Go.Proofs.YtafkamlhimkbmaaGreat
