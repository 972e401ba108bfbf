/-
  The walk of cbdd.Right (printed by wip/mk_right.py).
-/
import Derived.Test.YtafkamlhimkbmaaGreatPRightA
namespace Go.Proofs.YtafkamlhimkbmaaGreat
set_option maxRecDepth 1000000
set_option maxHeartbeats 8000000
set_option linter.unusedSimpArgs false
set_option linter.unusedVariables false
open Go.RowKit

theorem tC {F:Nat→Prop}{w:World}{X:Nat}{M:St}(h:ag F w X M)(v:Edge)(l:Int)(a':v.ok) :
  Calls Tryz.prog 151 #[.pointer (some ⟨X,0,none⟩),.agg #[.int .u8 v.tag,.int .u32 v.to],.int .i64 l] w fun r O=>r=.returned (.bool (ba M 3 v l))∧aa w O:=by
 have ca:=Lib.hid h.wf
 have b2:=Lib.hid (fun(id:Int) (r:Rec) (b3:look M.cs id=some r)=>h.b1 b3)
 have b3:=h.wf.br
 have b3:=h.b0
 have b6:=mN h.wf h.b0 [v.to]
 have av:=Lib.hid (fun(s:World) (t:aa w s) (id:Int) (hid:id≤4294967295)=>dU (h.U t) id hid)
 have T:=fun(s:World) (t:aa w s)=>cV (h.U t) 3 v l a'
 have b1:=Lib.hid (fun(s:World) (t:aa w s) (b:Nat) (cap:Nat) (b3:fF s (some ⟨b,0,none⟩) 1 [v])=>mO (h.U t) (some ⟨b,0,none⟩) 1 cap [v] b3 (by omega))
 clear h
 rcases cI (M.leads 3 v l)with J|J
 ·rw[J]at T;have a1:=Lib.hid T;have b0:=Lib.hid (mT J);clear T J;go_enter Tryz.func151,Tryz.ntmps151
  go_wp2_with (first|(go_at_call 134;refine(a1.out _ (by(exact kp))).mono ?_;rintro e w1 ⟨rfl,K⟩)|fail)
  go_ret
  exact⟨by rw[b0.out];rfl,by(exact kp)⟩
 ·rw[J]at T;have a1:=Lib.hid T;have bv:=Lib.hid J;clear T J;go_enter Tryz.func151,Tryz.ntmps151
  go_wp2_with (first|(go_at_call 134;refine(a1.out _ (by(exact kp))).mono ?_;rintro e w1 ⟨rfl,K⟩;have cf:w1.cell? ⟨w.heap.size,0,none⟩=some (.int .u8 v.tag):=K.cell (by simp);have cg:w1.cell? ⟨w.heap.size,1,none⟩=some (.int .u32 v.to):=K.cell (by simp);have b4:aa w w1:=(by(exact kp)))|fail)
  refine(b1.out _ (by(exact kp)) _ _ (mc a' (by simp[go_sem]) (by simp[go_sem]))).mono ?_;rintro e bp ⟨ce,rfl,a7,b5⟩;obtain⟨ids,ab⟩:∃ids,ids=aN M.cs [v.to]:=⟨_,rfl⟩;have a7:iE bp ce ids:=by rw[ab];exact a7
  rw[←ab]at b6;obtain⟨a,cap,rfl,J⟩:=a7;have Z:=Lib.hid ab;have bw:=Lib.hid J;have aw:=Lib.hid (show aa w bp by(exact kp));clear ab J b5 K b4 cf cg a';go_wp2_with fail
  go_loopg [23] ids.length (fun gk J wr=>∃d:Nat,d+gk=ids.length∧J=.int .i64 (d:Int)∧aa bp wr∧∀(i:Nat) (id:Int),i<d→ids[i]?=some id→aR M 3 (al (look M.cs id))=false)
  case atStart=>exact⟨0,by omega,rfl,aa.refl _,fun i id hi=>absurd hi (by omega)⟩
  case round=>
   obtain⟨d,ch,rfl,K,J⟩:=hrel;have I:=Lib.hid K;have br:=Lib.hid J;clear K J;by_cases b7:d<ids.length
   ·obtain⟨id,hid⟩:∃id,ids[d]?=some id:=⟨_,List.getElem?_eq_getElem b7⟩;obtain⟨g,rfl,bs⟩:=bw.out d id hid;have J:=I.out.cell bs;have bq:=Lib.hid hid;obtain⟨x,N,a3,J,K⟩:=mP ca.out (d:=d) (id:=id) (es:=[v.to]) (by rw[←Z.out];exact hid);have J:=a3.tb;have J:=a3.bn;have am:=b2.out id x N;have tok:0≤x.I:=am.I.1;have J:0≤x.J:=am.J.1;have bt:=am.lo.2.2;have J:=Lib.hid N;have ad:aa w wr:=aw.out.trans I.out
    have a6:Hid (aR M 3 (al (look M.cs id))=false→∀(i:Nat) (J:Int),i<d+1→ids[i]?=some J→aR M 3 (al (look M.cs J))=false):=Lib.hid (fun a5 i J hi W=>by
     by_cases hid:i<d;·exact br.out i J hid W
     ·obtain rfl:i=d:=(by omega);rw[bq.out]at W;cases W
      exact a5)
    have b9:Hid (aR M 3 (al (look M.cs id))=true→ba M 3 v l=false):=Lib.hid (fun a5=>mR (d:=d) (id:=id) (by rw[←Z.out];exact bq.out) a5);clear hid bs am
    have Y:Hid (∀s,aa w s→Calls Tryz.prog 78 #[.pointer (some ⟨X,0,none⟩),.int .u32 id] s fun e O=>e=.returned (.tuple #[.agg #[.int .u8 x.ad,.int .u8 x.I,.int .u8 x.J,.int .u8 x.lo.tag,.int .u32 x.lo.to,.int .u8 x.hi.tag,.int .u32 x.hi.to],.bool true])∧aa s O):=
     Lib.hid (fun s t=>by have:=av.out s t id (by omega);rw[N]at this;exact this)
    have cb:Hid (look M.cs x.lo.to=none→aR M 3 (al (look M.cs id))=false):=Lib.hid (fun A=>by rw[N];show(match look M.cs x.lo.to with|none=>false|some J=>_)=false;rw[A]);have cd:Hid (∀y,look M.cs x.lo.to=some y→aR M 3 (al (look M.cs id))=(decide (y.I=x.J+1)&&decide (y.hi=x.hi))):=Lib.hid (fun y A=>by rw[N];show(match look M.cs x.lo.to with|none=>false|some J=>_)=_;rw[A];rfl);clear a3;cases A:look M.cs x.lo.to with
    |none=>
     have U:Hid (∀s,aa w s→Calls Tryz.prog 78 #[.pointer (some ⟨X,0,none⟩),.int .u32 x.lo.to] s fun e O=>e=.returned (.tuple #[.agg #[.int .u8 Rec.zero.ad,.int .u8 Rec.zero.I,.int .u8 Rec.zero.J,.int .u8 Rec.zero.lo.tag,.int .u32 Rec.zero.lo.to,.int .u8 Rec.zero.hi.tag,.int .u32 Rec.zero.hi.to],.bool false])∧aa s O):=
      Lib.hid (fun s t=>by have:=av.out s t x.lo.to bt;rw[A]at this;exact this)
     have z:=Lib.hid (cb.out A);clear N A
     (go_wp2_with fail
      refine(Y.out _ ad).mono ?_
      rintro e q ⟨rfl,a4⟩
      go_wp2_with fail
      refine(U.out _ (by(exact kp))).mono ?_
      rintro e S ⟨rfl,j⟩
      have bb:=j.cell (a:=⟨q.heap.size,2,none⟩) (v:=.int .u8 x.J) (by simp[go_sem])
      have be:=j.cell (a:=⟨q.heap.size,3,none⟩) (v:=.int .u8 x.lo.tag) (by simp[go_sem])
      have bg:=j.cell (a:=⟨q.heap.size,4,none⟩) (v:=.int .u32 x.lo.to) (by simp[go_sem])
      have bi:=j.cell (a:=⟨q.heap.size,5,none⟩) (v:=.int .u8 x.hi.tag) (by simp[go_sem])
      have bn:=j.cell (a:=⟨q.heap.size,6,none⟩) (v:=.int .u32 x.hi.to) (by simp[go_sem])
      have L:=j.size
      simp only[World.size_alloc]at L
      have a8:q.heap.size<S.heap.size:=by omega
      go_wp2_with fail)
     go_roundg (gk-1)
     case rel=>exact⟨d+1,by omega,by simp,by have:=I.out;(exact kp),a6.out (by exact z.out)⟩
     case measure=>omega
    |some y=>
     have U:Hid (∀s,aa w s→Calls Tryz.prog 78 #[.pointer (some ⟨X,0,none⟩),.int .u32 x.lo.to] s fun e O=>e=.returned (.tuple #[.agg #[.int .u8 y.ad,.int .u8 y.I,.int .u8 y.J,.int .u8 y.lo.tag,.int .u32 y.lo.to,.int .u8 y.hi.tag,.int .u32 y.hi.to],.bool true])∧aa s O):=
      Lib.hid (fun s t=>by have:=av.out s t x.lo.to bt;rw[A]at this;exact this)
     have z:=Lib.hid (cd.out y A);clear N A;by_cases a2:y.I=x.J+1
     ·by_cases E:y.hi=x.hi
      ·have b8:=gI y.hi x.hi E;have z:Hid (aR M 3 (al (look M.cs id))=true):=Lib.hid (by rw[z.out];simp[a2,E]);have bx:=Lib.hid E;clear E
       (go_wp2_with fail
        refine(Y.out _ ad).mono ?_
        rintro e q ⟨rfl,a4⟩
        go_wp2_with fail
        refine(U.out _ (by(exact kp))).mono ?_
        rintro e S ⟨rfl,j⟩
        have bb:=j.cell (a:=⟨q.heap.size,2,none⟩) (v:=.int .u8 x.J) (by simp[go_sem])
        have be:=j.cell (a:=⟨q.heap.size,3,none⟩) (v:=.int .u8 x.lo.tag) (by simp[go_sem])
        have bg:=j.cell (a:=⟨q.heap.size,4,none⟩) (v:=.int .u32 x.lo.to) (by simp[go_sem])
        have bi:=j.cell (a:=⟨q.heap.size,5,none⟩) (v:=.int .u8 x.hi.tag) (by simp[go_sem])
        have bn:=j.cell (a:=⟨q.heap.size,6,none⟩) (v:=.int .u32 x.hi.to) (by simp[go_sem])
        have L:=j.size
        simp only[World.size_alloc]at L
        have a8:q.heap.size<S.heap.size:=by omega
        go_wp2_with fail)
       go_ret
       exact⟨by rw[b9.out (by exact z.out)];rfl,by have:=aw.out;have:=I.out;(exact kp)⟩
      ·have b8:=fJ y.hi x.hi E;have z:Hid (aR M 3 (al (look M.cs id))=false):=Lib.hid (by rw[z.out];simp[a2,E]);have bx:=Lib.hid E;clear E
       (go_wp2_with fail
        refine(Y.out _ ad).mono ?_
        rintro e q ⟨rfl,a4⟩
        go_wp2_with fail
        refine(U.out _ (by(exact kp))).mono ?_
        rintro e S ⟨rfl,j⟩
        have bb:=j.cell (a:=⟨q.heap.size,2,none⟩) (v:=.int .u8 x.J) (by simp[go_sem])
        have be:=j.cell (a:=⟨q.heap.size,3,none⟩) (v:=.int .u8 x.lo.tag) (by simp[go_sem])
        have bg:=j.cell (a:=⟨q.heap.size,4,none⟩) (v:=.int .u32 x.lo.to) (by simp[go_sem])
        have bi:=j.cell (a:=⟨q.heap.size,5,none⟩) (v:=.int .u8 x.hi.tag) (by simp[go_sem])
        have bn:=j.cell (a:=⟨q.heap.size,6,none⟩) (v:=.int .u32 x.hi.to) (by simp[go_sem])
        have L:=j.size
        simp only[World.size_alloc]at L
        have a8:q.heap.size<S.heap.size:=by omega
        go_wp2_with fail)
       go_roundg (gk-1)
       case rel=>exact⟨d+1,by omega,by simp,by have:=I.out;(exact kp),a6.out (by exact z.out)⟩
       case measure=>omega
     ·have z:Hid (aR M 3 (al (look M.cs id))=false):=Lib.hid (by rw[z.out];simp[a2])
      (go_wp2_with fail
       refine(Y.out _ ad).mono ?_
       rintro e q ⟨rfl,a4⟩
       go_wp2_with fail
       refine(U.out _ (by(exact kp))).mono ?_
       rintro e S ⟨rfl,j⟩
       have bb:=j.cell (a:=⟨q.heap.size,2,none⟩) (v:=.int .u8 x.J) (by simp[go_sem])
       have be:=j.cell (a:=⟨q.heap.size,3,none⟩) (v:=.int .u8 x.lo.tag) (by simp[go_sem])
       have bg:=j.cell (a:=⟨q.heap.size,4,none⟩) (v:=.int .u32 x.lo.to) (by simp[go_sem])
       have bi:=j.cell (a:=⟨q.heap.size,5,none⟩) (v:=.int .u8 x.hi.tag) (by simp[go_sem])
       have bn:=j.cell (a:=⟨q.heap.size,6,none⟩) (v:=.int .u32 x.hi.to) (by simp[go_sem])
       have L:=j.size
       simp only[World.size_alloc]at L
       have a8:q.heap.size<S.heap.size:=by omega
       go_wp2_with fail)
      go_roundg (gk-1)
      case rel=>exact⟨d+1,by omega,by simp,by have:=I.out;(exact kp),a6.out (by exact z.out)⟩
      case measure=>omega
   ·go_wp2
    go_ret
    have j:d=ids.length:=(by omega);refine⟨by rw[mS bv.out (fun i id hi W=>br.out i id (by rw[←Z.out]at hi;omega) (by rw[Z.out];exact W))];rfl,aw.out.trans I.out⟩

theorem uj {F:Nat→Prop}{w:World}{Z:Nat}{M:St}(h:ag F w Z M)(v:Edge)(l:Int)(bq:v.ok) :
  Calls Tryz.prog 152 #[.pointer (some ⟨Z,0,none⟩),.agg #[.int .u8 v.tag,.int .u32 v.to],.int .i64 l] w fun r S=>r=.returned (.bool (ba M 4 v l))∧aa w S:=by
 have ca:=Lib.hid h.wf
 have b3:=Lib.hid (fun(id:Int) (r:Rec) (b4:look M.cs id=some r)=>h.b1 b4)
 have b4:=h.wf.br
 have b4:=h.b0
 have b7:=mN h.wf h.b0 [v.to]
 have a8:=Lib.hid (fun(s:World) (A:aa w s) (id:Int) (hid:id≤4294967295)=>dU (h.U A) id hid)
 have U:=fun(s:World) (A:aa w s)=>cV (h.U A) 4 v l bq
 have b2:=Lib.hid (fun(s:World) (A:aa w s) (b:Nat) (cap:Nat) (b4:fF s (some ⟨b,0,none⟩) 1 [v])=>mO (h.U A) (some ⟨b,0,none⟩) 1 cap [v] b4 (by omega))
 clear h
 rcases cI (M.leads 4 v l)with L|L
 ·rw[L]at U;have bb:=Lib.hid U;have b1:=Lib.hid (mT L);clear U L;go_enter Tryz.func152,Tryz.ntmps152
  go_wp2_with (first|(go_at_call 134;refine(bb.out _ (by(exact kp))).mono ?_;rintro e w1 ⟨rfl,N⟩)|fail)
  go_ret
  exact⟨by rw[b1.out];rfl,by(exact kp)⟩
 ·rw[L]at U;have bb:=Lib.hid U;have bx:=Lib.hid L;clear U L;go_enter Tryz.func152,Tryz.ntmps152
  go_wp2_with (first|(go_at_call 134;refine(bb.out _ (by(exact kp))).mono ?_;rintro e w1 ⟨rfl,N⟩;have cf:w1.cell? ⟨w.heap.size,0,none⟩=some (.int .u8 v.tag):=N.cell (by simp);have cg:w1.cell? ⟨w.heap.size,1,none⟩=some (.int .u32 v.to):=N.cell (by simp);have b5:aa w w1:=(by(exact kp)))|fail)
  refine(b2.out _ (by(exact kp)) _ _ (mc bq (by simp[go_sem]) (by simp[go_sem]))).mono ?_;rintro e br ⟨ce,rfl,bp,b6⟩;obtain⟨ids,am⟩:∃ids,ids=aN M.cs [v.to]:=⟨_,rfl⟩;have bp:iE br ce ids:=by rw[am];exact bp
  rw[←am]at b7;obtain⟨a,cap,rfl,L⟩:=bp;have ab:=Lib.hid am;have b0:=Lib.hid L;have a':=Lib.hid (show aa w br by(exact kp));clear am L b6 N b5 cf cg bq;go_wp2_with fail
  go_loopg [23] ids.length (fun gk L wr=>∃d:Nat,d+gk=ids.length∧L=.int .i64 (d:Int)∧aa br wr∧∀(i:Nat) (id:Int),i<d→ids[i]?=some id→aR M 4 (al (look M.cs id))=false)
  case atStart=>exact⟨0,by omega,rfl,aa.refl _,fun i id hi=>absurd hi (by omega)⟩
  case round=>
   obtain⟨d,ch,rfl,N,L⟩:=hrel;have K:=Lib.hid N;have bt:=Lib.hid L;clear N L;by_cases b8:d<ids.length
   ·obtain⟨id,hid⟩:∃id,ids[d]?=some id:=⟨_,List.getElem?_eq_getElem b8⟩;obtain⟨g,rfl,bv⟩:=b0.out d id hid;have L:=K.out.cell bv;have bs:=Lib.hid hid;obtain⟨x,O,bg,L,N⟩:=mP ca.out (d:=d) (id:=id) (es:=[v.to]) (by rw[←ab.out];exact hid);have L:=bg.tb;have L:=bg.bn;have aw:=b3.out id x O;have tok:0≤x.I:=aw.I.1;have L:0≤x.J:=aw.J.1;have bw:=aw.lo.2.2;have L:=Lib.hid O;have Y:aa w wr:=a'.out.trans K.out
    have av:Hid (aR M 4 (al (look M.cs id))=false→∀(i:Nat) (L:Int),i<d+1→ids[i]?=some L→aR M 4 (al (look M.cs L))=false):=Lib.hid (fun bi i L hi X=>by
     by_cases hid:i<d;·exact bt.out i L hid X
     ·obtain rfl:i=d:=(by omega);rw[bs.out]at X;cases X
      exact bi)
    have b9:Hid (aR M 4 (al (look M.cs id))=true→ba M 4 v l=false):=Lib.hid (fun bi=>mR (d:=d) (id:=id) (by rw[←ab.out];exact bs.out) bi);clear hid bv aw
    have W:Hid (∀s,aa w s→Calls Tryz.prog 78 #[.pointer (some ⟨Z,0,none⟩),.int .u32 id] s fun e S=>e=.returned (.tuple #[.agg #[.int .u8 x.ad,.int .u8 x.I,.int .u8 x.J,.int .u8 x.lo.tag,.int .u32 x.lo.to,.int .u8 x.hi.tag,.int .u32 x.hi.to],.bool true])∧aa s S):=
     Lib.hid (fun s A=>by have:=a8.out s A id (by omega);rw[O]at this;exact this)
    have cb:Hid (look M.cs x.lo.to=none→aR M 4 (al (look M.cs id))=false):=Lib.hid (fun E=>by rw[O];show(match look M.cs x.lo.to with|none=>false|some L=>_)=false;rw[E]);have cd:Hid (∀y,look M.cs x.lo.to=some y→aR M 4 (al (look M.cs id))=(decide (y.I=x.J+1)&&decide (x.lo=x.hi))):=Lib.hid (fun y E=>by rw[O];show(match look M.cs x.lo.to with|none=>false|some L=>_)=_;rw[E];rfl);clear bg;cases E:look M.cs x.lo.to with
    |none=>
     have T:Hid (∀s,aa w s→Calls Tryz.prog 78 #[.pointer (some ⟨Z,0,none⟩),.int .u32 x.lo.to] s fun e S=>e=.returned (.tuple #[.agg #[.int .u8 Rec.zero.ad,.int .u8 Rec.zero.I,.int .u8 Rec.zero.J,.int .u8 Rec.zero.lo.tag,.int .u32 Rec.zero.lo.to,.int .u8 Rec.zero.hi.tag,.int .u32 Rec.zero.hi.to],.bool false])∧aa s S):=
      Lib.hid (fun s A=>by have:=a8.out s A x.lo.to bw;rw[E]at this;exact this)
     have z:=Lib.hid (cb.out E);clear O E
     (go_wp2_with fail
      refine(W.out _ Y).mono ?_
      rintro e q ⟨rfl,ad⟩
      go_wp2_with fail
      refine(T.out _ (by(exact kp))).mono ?_
      rintro e J ⟨rfl,j⟩
      have a2:=j.cell (a:=⟨q.heap.size,2,none⟩) (v:=.int .u8 x.J) (by simp[go_sem])
      have a3:=j.cell (a:=⟨q.heap.size,3,none⟩) (v:=.int .u8 x.lo.tag) (by simp[go_sem])
      have a4:=j.cell (a:=⟨q.heap.size,4,none⟩) (v:=.int .u32 x.lo.to) (by simp[go_sem])
      have a5:=j.cell (a:=⟨q.heap.size,5,none⟩) (v:=.int .u8 x.hi.tag) (by simp[go_sem])
      have a6:=j.cell (a:=⟨q.heap.size,6,none⟩) (v:=.int .u32 x.hi.to) (by simp[go_sem])
      have I:=j.size
      simp only[World.size_alloc]at I
      have a1:q.heap.size<J.heap.size:=by omega
      go_wp2_with fail)
     go_roundg (gk-1)
     case rel=>exact⟨d+1,by omega,by simp,by have:=K.out;(exact kp),av.out (by exact z.out)⟩
     case measure=>omega
    |some y=>
     have T:Hid (∀s,aa w s→Calls Tryz.prog 78 #[.pointer (some ⟨Z,0,none⟩),.int .u32 x.lo.to] s fun e S=>e=.returned (.tuple #[.agg #[.int .u8 y.ad,.int .u8 y.I,.int .u8 y.J,.int .u8 y.lo.tag,.int .u32 y.lo.to,.int .u8 y.hi.tag,.int .u32 y.hi.to],.bool true])∧aa s S):=
      Lib.hid (fun s A=>by have:=a8.out s A x.lo.to bw;rw[E]at this;exact this)
     have z:=Lib.hid (cd.out y E);clear O E;by_cases be:y.I=x.J+1
     ·by_cases t:x.lo=x.hi
      ·have bn:=gI x.lo x.hi t;have z:Hid (aR M 4 (al (look M.cs id))=true):=Lib.hid (by rw[z.out];simp[be,t]);have a7:=Lib.hid t;clear t
       (go_wp2_with fail
        refine(W.out _ Y).mono ?_
        rintro e q ⟨rfl,ad⟩
        go_wp2_with fail
        refine(T.out _ (by(exact kp))).mono ?_
        rintro e J ⟨rfl,j⟩
        have a2:=j.cell (a:=⟨q.heap.size,2,none⟩) (v:=.int .u8 x.J) (by simp[go_sem])
        have a3:=j.cell (a:=⟨q.heap.size,3,none⟩) (v:=.int .u8 x.lo.tag) (by simp[go_sem])
        have a4:=j.cell (a:=⟨q.heap.size,4,none⟩) (v:=.int .u32 x.lo.to) (by simp[go_sem])
        have a5:=j.cell (a:=⟨q.heap.size,5,none⟩) (v:=.int .u8 x.hi.tag) (by simp[go_sem])
        have a6:=j.cell (a:=⟨q.heap.size,6,none⟩) (v:=.int .u32 x.hi.to) (by simp[go_sem])
        have I:=j.size
        simp only[World.size_alloc]at I
        have a1:q.heap.size<J.heap.size:=by omega
        go_wp2_with fail)
       go_ret
       exact⟨by rw[b9.out (by exact z.out)];rfl,by have:=a'.out;have:=K.out;(exact kp)⟩
      ·have bn:=fJ x.lo x.hi t;have z:Hid (aR M 4 (al (look M.cs id))=false):=Lib.hid (by rw[z.out];simp[be,t]);have a7:=Lib.hid t;clear t
       (go_wp2_with fail
        refine(W.out _ Y).mono ?_
        rintro e q ⟨rfl,ad⟩
        go_wp2_with fail
        refine(T.out _ (by(exact kp))).mono ?_
        rintro e J ⟨rfl,j⟩
        have a2:=j.cell (a:=⟨q.heap.size,2,none⟩) (v:=.int .u8 x.J) (by simp[go_sem])
        have a3:=j.cell (a:=⟨q.heap.size,3,none⟩) (v:=.int .u8 x.lo.tag) (by simp[go_sem])
        have a4:=j.cell (a:=⟨q.heap.size,4,none⟩) (v:=.int .u32 x.lo.to) (by simp[go_sem])
        have a5:=j.cell (a:=⟨q.heap.size,5,none⟩) (v:=.int .u8 x.hi.tag) (by simp[go_sem])
        have a6:=j.cell (a:=⟨q.heap.size,6,none⟩) (v:=.int .u32 x.hi.to) (by simp[go_sem])
        have I:=j.size
        simp only[World.size_alloc]at I
        have a1:q.heap.size<J.heap.size:=by omega
        go_wp2_with fail)
       go_roundg (gk-1)
       case rel=>exact⟨d+1,by omega,by simp,by have:=K.out;(exact kp),av.out (by exact z.out)⟩
       case measure=>omega
     ·have z:Hid (aR M 4 (al (look M.cs id))=false):=Lib.hid (by rw[z.out];simp[be]);by_cases t:x.lo=x.hi
      ·have bn:=gI x.lo x.hi t;have a7:=Lib.hid t;clear t
       (go_wp2_with fail
        refine(W.out _ Y).mono ?_
        rintro e q ⟨rfl,ad⟩
        go_wp2_with fail
        refine(T.out _ (by(exact kp))).mono ?_
        rintro e J ⟨rfl,j⟩
        have a2:=j.cell (a:=⟨q.heap.size,2,none⟩) (v:=.int .u8 x.J) (by simp[go_sem])
        have a3:=j.cell (a:=⟨q.heap.size,3,none⟩) (v:=.int .u8 x.lo.tag) (by simp[go_sem])
        have a4:=j.cell (a:=⟨q.heap.size,4,none⟩) (v:=.int .u32 x.lo.to) (by simp[go_sem])
        have a5:=j.cell (a:=⟨q.heap.size,5,none⟩) (v:=.int .u8 x.hi.tag) (by simp[go_sem])
        have a6:=j.cell (a:=⟨q.heap.size,6,none⟩) (v:=.int .u32 x.hi.to) (by simp[go_sem])
        have I:=j.size
        simp only[World.size_alloc]at I
        have a1:q.heap.size<J.heap.size:=by omega
        go_wp2_with fail)
       go_roundg (gk-1)
       case rel=>exact⟨d+1,by omega,by simp,by have:=K.out;(exact kp),av.out (by exact z.out)⟩
       case measure=>omega
      ·have bn:=fJ x.lo x.hi t;have a7:=Lib.hid t;clear t
       (go_wp2_with fail
        refine(W.out _ Y).mono ?_
        rintro e q ⟨rfl,ad⟩
        go_wp2_with fail
        refine(T.out _ (by(exact kp))).mono ?_
        rintro e J ⟨rfl,j⟩
        have a2:=j.cell (a:=⟨q.heap.size,2,none⟩) (v:=.int .u8 x.J) (by simp[go_sem])
        have a3:=j.cell (a:=⟨q.heap.size,3,none⟩) (v:=.int .u8 x.lo.tag) (by simp[go_sem])
        have a4:=j.cell (a:=⟨q.heap.size,4,none⟩) (v:=.int .u32 x.lo.to) (by simp[go_sem])
        have a5:=j.cell (a:=⟨q.heap.size,5,none⟩) (v:=.int .u8 x.hi.tag) (by simp[go_sem])
        have a6:=j.cell (a:=⟨q.heap.size,6,none⟩) (v:=.int .u32 x.hi.to) (by simp[go_sem])
        have I:=j.size
        simp only[World.size_alloc]at I
        have a1:q.heap.size<J.heap.size:=by omega
        go_wp2_with fail)
       go_roundg (gk-1)
       case rel=>exact⟨d+1,by omega,by simp,by have:=K.out;(exact kp),av.out (by exact z.out)⟩
       case measure=>omega
   ·go_wp2
    go_ret
    have j:d=ids.length:=(by omega);refine⟨by rw[mS bx.out (fun i id hi X=>bt.out i id (by rw[←ab.out]at hi;omega) (by rw[ab.out];exact X))];rfl,a'.out.trans K.out⟩

end Go.Proofs.YtafkamlhimkbmaaGreat
